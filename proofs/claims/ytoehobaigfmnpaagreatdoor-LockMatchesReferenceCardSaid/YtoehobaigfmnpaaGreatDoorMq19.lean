/- Contracts of the reference of slot: Write, one case of which slot is the best. -/
import Derived.Test.YtoehobaigfmnpaaGreatDoorMq10
import Derived.Test.YtoehobaigfmnpaaGreatDoorMq17
set_option linter.unusedSimpArgs false
set_option linter.unusedVariables false
set_option maxRecDepth 100000
namespace Go.Proofs.YtoehobaigfmnpaaGreatDoor
open Go.RowKit
set_option maxHeartbeats 8000000 in
theorem rwrite_ok1 (x y : Slt) (c at_ : Int) (A : Option Addr) (n p : Nat) (B : Option Addr) (m q : Nat) (D : Option Addr) (k r : Nat) (l : List Int) (hlk : l.length = k) (w : World) (hx : SlotIs w A n x) (hy : SlotIs w B m y) (hc : -9223372036854775808 ≤ c ∧ c ≤ 9223372036854775807) (hl : IntsAt w D .i64 l) (hk : k ≤ 500) (hf : Fit l)
  (hE : bestB x y = true) (hI : bestI x y = 1) (hF : fldB 0 c l = true) (h3 : at_ = 0 ∨ at_ = 1 ∨ at_ = 2 ∨ at_ = 3) (hS : y.s ≠ 1000000000) (hS0 : 0 ≤ y.s ∧ y.s ≤ 1000000000) (hw : wrE x y c l at_ = 0) :
  Calls Tryz.prog 42 #[.agg #[.int .i64 x.s, .int .i64 x.c, .slice A n p, .int .u64 x.u, .int .i64 y.s, .int .i64 y.c, .slice B m q, .int .u64 y.u], .int .i64 c, .slice D k r, .int .i64 at_] w (SlotsErr (wr0 x y c l at_) (wr1 x y c l at_) 0 w) := by
 have b1 : Below w.heap.size w ((w.alloc (.cells #[.int .i64 x.s, .int .i64 x.c, .slice A n p, .int .u64 x.u, .int .i64 y.s, .int .i64 y.c, .slice B m q, .int .u64 y.u] 26)).alloc (.cells #[.int .i64 0, .int .i64 0, .slice none 0 0, .int .u64 0, .int .i64 0, .int .i64 0, .slice none 0 0, .int .u64 0] 26)) := ((Below.refl _ _).alloc (Nat.le_refl _) _).alloc (by simp) _
 have q3 := rbest_any x y A n p B m q _ (hx.below b1) (hy.below b1)
 rw [hE, hI] at q3
 have q1 := fun W (hb : Below w.heap.size w W) => rmake_ok 0 c D r k l hlk W (by omega) hc (hl.below hb) hk hf hF
 have d1 : decide (at_ < 0) = false := decide_eq_false (by omega)
 have d2 : decide (3 < at_) = false := decide_eq_false (by omega)
 have q4 := fun W X cx (h : IntsAt W X .i64 l) => rsum_any (y.s + 1) c (sumS 0 c l) X cx k l hlk W (by omega) hc h (by omega) hf
 have mad : Slt.made 0 c l = ⟨0, c, l, sumS 0 c l⟩ := rfl
 have e0 := (wr_eq0 hw).1
 have e1 := (wr_eq0 hw).2
 have ei : into0 x y = true := by simp [into0, hE, hI]
 have et : topS x y = y.s := by simp [topS, hE, hI]
 have eS : ∀ a, wrS x y c l a = ⟨(y.s + 1), c, l, if a = 1 then (sumS (y.s + 1) c l + 1) % 18446744073709551616 else sumS (y.s + 1) c l⟩ := fun a => by rw [wrS, et]
 simp only [ei] at e0 e1
 have u1 := sumS_in (y.s + 1) c l
 have u10 := u1.1
 have u11 := u1.2
 generalize sumS (y.s + 1) c l = U at *
 rw [mad] at q1
 generalize sumS 0 c l = U0 at *
 generalize wr0 x y c l at_ = Z0 at *
 generalize wr1 x y c l at_ = Z1 at *
 have xs := hx.s; have xs0 := xs.1; have xs1 := xs.2
 have ys := hy.s; have ys0 := ys.1; have ys1 := ys.2
 have hS1 : (y.s == 1000000000) = false := by rw [beq_eq_false_iff_ne]; exact hS
 have hS2 := hS0.1
 have hS3 := hS0.2
 have ⟨H_hx, H_hy, H_hc, H_hl, H_hf, H_hE, H_hI, H_b1⟩ := hid8 hx hy hc hl hf hE hI b1; clear hx hy hc hl hf hE hI b1; have ⟨H_q1, H_q3, H_hlk, H_hF, H_h3, H_hS, H_hS0, H_q4⟩ := hid8 q1 q3 hlk hF h3 hS hS0 q4; clear q1 q3 hlk hF h3 hS hS0 q4; have ⟨H_mad, H_e0, H_e1, H_ei, H_et, H_eS, H_hw, H_u1⟩ := hid8 mad e0 e1 ei et eS hw u1; clear mad e0 e1 ei et eS hw u1; have ⟨H_xs, H_ys⟩ := hid2 xs ys; clear xs ys
 go_enter Tryz.func42, Tryz.ntmps42
 go_wp2_with fail
 refine (H_q3.out).mono ?_; rintro e w2 ⟨rfl, hbw2⟩
 have hsw2 := hbw2.size; (try simp only [World.size_alloc, World.heap_drewN, World.size_setCell, heap_drew] at hsw2)
 have gw2 : Below w.heap.size w w2 := belt
 have kw2x0x0 := keepc hbw2 (b := w.heap.size) (o := 0) omg (by go_simp; with_reducible rfl)
 have fw2x0x0 := keepf hbw2 (b := w.heap.size) (o := 0) omg (by go_simp)
 have kw2x0x1 := keepc hbw2 (b := w.heap.size) (o := 1) omg (by go_simp; with_reducible rfl)
 have fw2x0x1 := keepf hbw2 (b := w.heap.size) (o := 1) omg (by go_simp)
 have kw2x0x2 := keepc hbw2 (b := w.heap.size) (o := 2) omg (by go_simp; with_reducible rfl)
 have fw2x0x2 := keepf hbw2 (b := w.heap.size) (o := 2) omg (by go_simp)
 have kw2x0x3 := keepc hbw2 (b := w.heap.size) (o := 3) omg (by go_simp; with_reducible rfl)
 have fw2x0x3 := keepf hbw2 (b := w.heap.size) (o := 3) omg (by go_simp)
 have kw2x0x4 := keepc hbw2 (b := w.heap.size) (o := 4) omg (by go_simp; with_reducible rfl)
 have fw2x0x4 := keepf hbw2 (b := w.heap.size) (o := 4) omg (by go_simp)
 have kw2x0x5 := keepc hbw2 (b := w.heap.size) (o := 5) omg (by go_simp; with_reducible rfl)
 have fw2x0x5 := keepf hbw2 (b := w.heap.size) (o := 5) omg (by go_simp)
 have kw2x0x6 := keepc hbw2 (b := w.heap.size) (o := 6) omg (by go_simp; with_reducible rfl)
 have fw2x0x6 := keepf hbw2 (b := w.heap.size) (o := 6) omg (by go_simp)
 have kw2x0x7 := keepc hbw2 (b := w.heap.size) (o := 7) omg (by go_simp; with_reducible rfl)
 have fw2x0x7 := keepf hbw2 (b := w.heap.size) (o := 7) omg (by go_simp)
 have zw2x0 : w.heap.size < w2.heap.size := by omega
 have kw2x1x0 := keepc hbw2 (b := w.heap.size + 1) (o := 0) omg (by go_simp; with_reducible rfl)
 have fw2x1x0 := keepf hbw2 (b := w.heap.size + 1) (o := 0) omg (by go_simp)
 have kw2x1x1 := keepc hbw2 (b := w.heap.size + 1) (o := 1) omg (by go_simp; with_reducible rfl)
 have fw2x1x1 := keepf hbw2 (b := w.heap.size + 1) (o := 1) omg (by go_simp)
 have kw2x1x2 := keepc hbw2 (b := w.heap.size + 1) (o := 2) omg (by go_simp; with_reducible rfl)
 have fw2x1x2 := keepf hbw2 (b := w.heap.size + 1) (o := 2) omg (by go_simp)
 have kw2x1x3 := keepc hbw2 (b := w.heap.size + 1) (o := 3) omg (by go_simp; with_reducible rfl)
 have fw2x1x3 := keepf hbw2 (b := w.heap.size + 1) (o := 3) omg (by go_simp)
 have kw2x1x4 := keepc hbw2 (b := w.heap.size + 1) (o := 4) omg (by go_simp; with_reducible rfl)
 have fw2x1x4 := keepf hbw2 (b := w.heap.size + 1) (o := 4) omg (by go_simp)
 have kw2x1x5 := keepc hbw2 (b := w.heap.size + 1) (o := 5) omg (by go_simp; with_reducible rfl)
 have fw2x1x5 := keepf hbw2 (b := w.heap.size + 1) (o := 5) omg (by go_simp)
 have kw2x1x6 := keepc hbw2 (b := w.heap.size + 1) (o := 6) omg (by go_simp; with_reducible rfl)
 have fw2x1x6 := keepf hbw2 (b := w.heap.size + 1) (o := 6) omg (by go_simp)
 have kw2x1x7 := keepc hbw2 (b := w.heap.size + 1) (o := 7) omg (by go_simp; with_reducible rfl)
 have fw2x1x7 := keepf hbw2 (b := w.heap.size + 1) (o := 7) omg (by go_simp)
 have zw2x1 : w.heap.size + 1 < w2.heap.size := by omega
 have H_hbw2 := Lib.hid hbw2; clear hbw2
 have q1 := H_q1.out w2 gw2
 unfold SlotErr at q1
 dsimp only at q1
 rw [H_hlk.out] at q1
 have H_q1 := Lib.hid q1; clear q1
 go_wp2_with fail
 refine (H_q1.out).mono ?_; rintro e w3 ⟨X, cx, rfl, ho, hbw3⟩
 have hsw3 := hbw3.size; (try simp only [World.size_alloc, World.heap_drewN, World.size_setCell, heap_drew] at hsw3)
 have gw3 : Below w.heap.size w w3 := belt
 have kw3x0x0 := keepc hbw3 (b := w.heap.size) (o := 0) omg (by go_simp; with_reducible rfl)
 have fw3x0x0 := keepf hbw3 (b := w.heap.size) (o := 0) omg (by go_simp)
 have kw3x0x1 := keepc hbw3 (b := w.heap.size) (o := 1) omg (by go_simp; with_reducible rfl)
 have fw3x0x1 := keepf hbw3 (b := w.heap.size) (o := 1) omg (by go_simp)
 have kw3x0x2 := keepc hbw3 (b := w.heap.size) (o := 2) omg (by go_simp; with_reducible rfl)
 have fw3x0x2 := keepf hbw3 (b := w.heap.size) (o := 2) omg (by go_simp)
 have kw3x0x3 := keepc hbw3 (b := w.heap.size) (o := 3) omg (by go_simp; with_reducible rfl)
 have fw3x0x3 := keepf hbw3 (b := w.heap.size) (o := 3) omg (by go_simp)
 have kw3x0x4 := keepc hbw3 (b := w.heap.size) (o := 4) omg (by go_simp; with_reducible rfl)
 have fw3x0x4 := keepf hbw3 (b := w.heap.size) (o := 4) omg (by go_simp)
 have kw3x0x5 := keepc hbw3 (b := w.heap.size) (o := 5) omg (by go_simp; with_reducible rfl)
 have fw3x0x5 := keepf hbw3 (b := w.heap.size) (o := 5) omg (by go_simp)
 have kw3x0x6 := keepc hbw3 (b := w.heap.size) (o := 6) omg (by go_simp; with_reducible rfl)
 have fw3x0x6 := keepf hbw3 (b := w.heap.size) (o := 6) omg (by go_simp)
 have kw3x0x7 := keepc hbw3 (b := w.heap.size) (o := 7) omg (by go_simp; with_reducible rfl)
 have fw3x0x7 := keepf hbw3 (b := w.heap.size) (o := 7) omg (by go_simp)
 have zw3x0 : w.heap.size < w3.heap.size := by omega
 have kw3x1x0 := keepc hbw3 (b := w.heap.size + 1) (o := 0) omg (by go_simp; with_reducible rfl)
 have fw3x1x0 := keepf hbw3 (b := w.heap.size + 1) (o := 0) omg (by go_simp)
 have kw3x1x1 := keepc hbw3 (b := w.heap.size + 1) (o := 1) omg (by go_simp; with_reducible rfl)
 have fw3x1x1 := keepf hbw3 (b := w.heap.size + 1) (o := 1) omg (by go_simp)
 have kw3x1x2 := keepc hbw3 (b := w.heap.size + 1) (o := 2) omg (by go_simp; with_reducible rfl)
 have fw3x1x2 := keepf hbw3 (b := w.heap.size + 1) (o := 2) omg (by go_simp)
 have kw3x1x3 := keepc hbw3 (b := w.heap.size + 1) (o := 3) omg (by go_simp; with_reducible rfl)
 have fw3x1x3 := keepf hbw3 (b := w.heap.size + 1) (o := 3) omg (by go_simp)
 have kw3x1x4 := keepc hbw3 (b := w.heap.size + 1) (o := 4) omg (by go_simp; with_reducible rfl)
 have fw3x1x4 := keepf hbw3 (b := w.heap.size + 1) (o := 4) omg (by go_simp)
 have kw3x1x5 := keepc hbw3 (b := w.heap.size + 1) (o := 5) omg (by go_simp; with_reducible rfl)
 have fw3x1x5 := keepf hbw3 (b := w.heap.size + 1) (o := 5) omg (by go_simp)
 have kw3x1x6 := keepc hbw3 (b := w.heap.size + 1) (o := 6) omg (by go_simp; with_reducible rfl)
 have fw3x1x6 := keepf hbw3 (b := w.heap.size + 1) (o := 6) omg (by go_simp)
 have kw3x1x7 := keepc hbw3 (b := w.heap.size + 1) (o := 7) omg (by go_simp; with_reducible rfl)
 have fw3x1x7 := keepf hbw3 (b := w.heap.size + 1) (o := 7) omg (by go_simp)
 have zw3x1 : w.heap.size + 1 < w3.heap.size := by omega
 have H_hbw3 := Lib.hid hbw3; clear hbw3
 clear gw2
 clear kw2x0x0
 clear fw2x0x0
 clear kw2x0x1
 clear fw2x0x1
 clear kw2x0x2
 clear fw2x0x2
 clear kw2x0x3
 clear fw2x0x3
 clear kw2x0x4
 clear fw2x0x4
 clear kw2x0x5
 clear fw2x0x5
 clear kw2x0x6
 clear fw2x0x6
 clear kw2x0x7
 clear fw2x0x7
 clear kw2x1x0
 clear fw2x1x0
 clear kw2x1x1
 clear fw2x1x1
 clear kw2x1x2
 clear fw2x1x2
 clear kw2x1x3
 clear fw2x1x3
 clear kw2x1x4
 clear fw2x1x4
 clear kw2x1x5
 clear fw2x1x5
 clear kw2x1x6
 clear fw2x1x6
 clear kw2x1x7
 clear fw2x1x7
 have hne1 : w.heap.size ≠ w3.heap.size := by omega
 have hne2 : w3.heap.size ≠ w.heap.size := by omega
 have hne3 : w.heap.size + 1 ≠ w3.heap.size := by omega
 have hne4 : w3.heap.size ≠ w.heap.size + 1 := by omega
 have sg := (seg_own ho).alloc (.cells #[.int .i64 (y.s + 1), .int .i64 c, .slice X k cx, .int .u64 U0] 25)
 have q4 := H_q4.out _ X cx sg.ints
 have ⟨H_sg, H_ho, H_q4⟩ := hid3 sg ho q4; clear sg ho q4
 go_wp2_with fail
 refine (H_q4.out).mono ?_; rintro e w4 ⟨rfl, hbw4⟩
 have hsw4 := hbw4.size; (try simp only [World.size_alloc, World.heap_drewN, World.size_setCell, heap_drew] at hsw4)
 have gw4 : Below w.heap.size w w4 := belt
 have kw4x0x0 := keepc hbw4 (b := w.heap.size) (o := 0) omg (by go_simp; with_reducible rfl)
 have fw4x0x0 := keepf hbw4 (b := w.heap.size) (o := 0) omg (by go_simp)
 have kw4x0x1 := keepc hbw4 (b := w.heap.size) (o := 1) omg (by go_simp; with_reducible rfl)
 have fw4x0x1 := keepf hbw4 (b := w.heap.size) (o := 1) omg (by go_simp)
 have kw4x0x2 := keepc hbw4 (b := w.heap.size) (o := 2) omg (by go_simp; with_reducible rfl)
 have fw4x0x2 := keepf hbw4 (b := w.heap.size) (o := 2) omg (by go_simp)
 have kw4x0x3 := keepc hbw4 (b := w.heap.size) (o := 3) omg (by go_simp; with_reducible rfl)
 have fw4x0x3 := keepf hbw4 (b := w.heap.size) (o := 3) omg (by go_simp)
 have kw4x0x4 := keepc hbw4 (b := w.heap.size) (o := 4) omg (by go_simp; with_reducible rfl)
 have fw4x0x4 := keepf hbw4 (b := w.heap.size) (o := 4) omg (by go_simp)
 have kw4x0x5 := keepc hbw4 (b := w.heap.size) (o := 5) omg (by go_simp; with_reducible rfl)
 have fw4x0x5 := keepf hbw4 (b := w.heap.size) (o := 5) omg (by go_simp)
 have kw4x0x6 := keepc hbw4 (b := w.heap.size) (o := 6) omg (by go_simp; with_reducible rfl)
 have fw4x0x6 := keepf hbw4 (b := w.heap.size) (o := 6) omg (by go_simp)
 have kw4x0x7 := keepc hbw4 (b := w.heap.size) (o := 7) omg (by go_simp; with_reducible rfl)
 have fw4x0x7 := keepf hbw4 (b := w.heap.size) (o := 7) omg (by go_simp)
 have zw4x0 : w.heap.size < w4.heap.size := by omega
 have kw4x1x0 := keepc hbw4 (b := w.heap.size + 1) (o := 0) omg (by go_simp; with_reducible rfl)
 have fw4x1x0 := keepf hbw4 (b := w.heap.size + 1) (o := 0) omg (by go_simp)
 have kw4x1x1 := keepc hbw4 (b := w.heap.size + 1) (o := 1) omg (by go_simp; with_reducible rfl)
 have fw4x1x1 := keepf hbw4 (b := w.heap.size + 1) (o := 1) omg (by go_simp)
 have kw4x1x2 := keepc hbw4 (b := w.heap.size + 1) (o := 2) omg (by go_simp; with_reducible rfl)
 have fw4x1x2 := keepf hbw4 (b := w.heap.size + 1) (o := 2) omg (by go_simp)
 have kw4x1x3 := keepc hbw4 (b := w.heap.size + 1) (o := 3) omg (by go_simp; with_reducible rfl)
 have fw4x1x3 := keepf hbw4 (b := w.heap.size + 1) (o := 3) omg (by go_simp)
 have kw4x1x4 := keepc hbw4 (b := w.heap.size + 1) (o := 4) omg (by go_simp; with_reducible rfl)
 have fw4x1x4 := keepf hbw4 (b := w.heap.size + 1) (o := 4) omg (by go_simp)
 have kw4x1x5 := keepc hbw4 (b := w.heap.size + 1) (o := 5) omg (by go_simp; with_reducible rfl)
 have fw4x1x5 := keepf hbw4 (b := w.heap.size + 1) (o := 5) omg (by go_simp)
 have kw4x1x6 := keepc hbw4 (b := w.heap.size + 1) (o := 6) omg (by go_simp; with_reducible rfl)
 have fw4x1x6 := keepf hbw4 (b := w.heap.size + 1) (o := 6) omg (by go_simp)
 have kw4x1x7 := keepc hbw4 (b := w.heap.size + 1) (o := 7) omg (by go_simp; with_reducible rfl)
 have fw4x1x7 := keepf hbw4 (b := w.heap.size + 1) (o := 7) omg (by go_simp)
 have zw4x1 : w.heap.size + 1 < w4.heap.size := by omega
 have kw4x2x0 := keepc hbw4 (b := w3.heap.size) (o := 0) omg (by go_simp; with_reducible rfl)
 have fw4x2x0 := keepf hbw4 (b := w3.heap.size) (o := 0) omg (by go_simp)
 have kw4x2x1 := keepc hbw4 (b := w3.heap.size) (o := 1) omg (by go_simp; with_reducible rfl)
 have fw4x2x1 := keepf hbw4 (b := w3.heap.size) (o := 1) omg (by go_simp)
 have kw4x2x2 := keepc hbw4 (b := w3.heap.size) (o := 2) omg (by go_simp; with_reducible rfl)
 have fw4x2x2 := keepf hbw4 (b := w3.heap.size) (o := 2) omg (by go_simp)
 have kw4x2x3 := keepc hbw4 (b := w3.heap.size) (o := 3) omg (by go_simp; with_reducible rfl)
 have fw4x2x3 := keepf hbw4 (b := w3.heap.size) (o := 3) omg (by go_simp)
 have zw4x2 : w3.heap.size < w4.heap.size := by omega
 have H_hbw4 := Lib.hid hbw4; clear hbw4
 clear gw3
 clear kw3x0x0
 clear fw3x0x0
 clear kw3x0x1
 clear fw3x0x1
 clear kw3x0x2
 clear fw3x0x2
 clear kw3x0x3
 clear fw3x0x3
 clear kw3x0x4
 clear fw3x0x4
 clear kw3x0x5
 clear fw3x0x5
 clear kw3x0x6
 clear fw3x0x6
 clear kw3x0x7
 clear fw3x0x7
 clear kw3x1x0
 clear fw3x1x0
 clear kw3x1x1
 clear fw3x1x1
 clear kw3x1x2
 clear fw3x1x2
 clear kw3x1x3
 clear fw3x1x3
 clear kw3x1x4
 clear fw3x1x4
 clear kw3x1x5
 clear fw3x1x5
 clear kw3x1x6
 clear fw3x1x6
 clear kw3x1x7
 clear fw3x1x7
 have sg4 := H_sg.out.below H_hbw4.out
 have H_sg4 := Lib.hid sg4; clear sg4
 go_upto_region 16 with (fail)
 obtain ⟨w5, hew5⟩ : ∃ W : World, w4.setCell ⟨w3.heap.size, 3, none⟩ (.int .u64 U) = W := ⟨_, rfl⟩
 rw [hew5]
 have hsw5 := congrArg (fun W : World => W.heap.size) hew5
 simp only [World.size_alloc, World.heap_drewN, World.size_setCell, heap_drew] at hsw5
 have H_hew5 := Lib.hid hew5; clear hew5
 have gw5 : Below w.heap.size w w5 := by rw [← H_hew5.out]; exact belt
 have kw5x0x0 := nameC H_hew5.out (b := w.heap.size) (o := 0) (by go_simp; with_reducible rfl)
 have fw5x0x0 := nameF H_hew5.out (b := w.heap.size) (o := 0) (by go_simp)
 have kw5x0x1 := nameC H_hew5.out (b := w.heap.size) (o := 1) (by go_simp; with_reducible rfl)
 have fw5x0x1 := nameF H_hew5.out (b := w.heap.size) (o := 1) (by go_simp)
 have kw5x0x2 := nameC H_hew5.out (b := w.heap.size) (o := 2) (by go_simp; with_reducible rfl)
 have fw5x0x2 := nameF H_hew5.out (b := w.heap.size) (o := 2) (by go_simp)
 have kw5x0x3 := nameC H_hew5.out (b := w.heap.size) (o := 3) (by go_simp; with_reducible rfl)
 have fw5x0x3 := nameF H_hew5.out (b := w.heap.size) (o := 3) (by go_simp)
 have kw5x0x4 := nameC H_hew5.out (b := w.heap.size) (o := 4) (by go_simp; with_reducible rfl)
 have fw5x0x4 := nameF H_hew5.out (b := w.heap.size) (o := 4) (by go_simp)
 have kw5x0x5 := nameC H_hew5.out (b := w.heap.size) (o := 5) (by go_simp; with_reducible rfl)
 have fw5x0x5 := nameF H_hew5.out (b := w.heap.size) (o := 5) (by go_simp)
 have kw5x0x6 := nameC H_hew5.out (b := w.heap.size) (o := 6) (by go_simp; with_reducible rfl)
 have fw5x0x6 := nameF H_hew5.out (b := w.heap.size) (o := 6) (by go_simp)
 have kw5x0x7 := nameC H_hew5.out (b := w.heap.size) (o := 7) (by go_simp; with_reducible rfl)
 have fw5x0x7 := nameF H_hew5.out (b := w.heap.size) (o := 7) (by go_simp)
 have zw5x0 : w.heap.size < w5.heap.size := by omega
 have kw5x1x0 := nameC H_hew5.out (b := w.heap.size + 1) (o := 0) (by go_simp; with_reducible rfl)
 have fw5x1x0 := nameF H_hew5.out (b := w.heap.size + 1) (o := 0) (by go_simp)
 have kw5x1x1 := nameC H_hew5.out (b := w.heap.size + 1) (o := 1) (by go_simp; with_reducible rfl)
 have fw5x1x1 := nameF H_hew5.out (b := w.heap.size + 1) (o := 1) (by go_simp)
 have kw5x1x2 := nameC H_hew5.out (b := w.heap.size + 1) (o := 2) (by go_simp; with_reducible rfl)
 have fw5x1x2 := nameF H_hew5.out (b := w.heap.size + 1) (o := 2) (by go_simp)
 have kw5x1x3 := nameC H_hew5.out (b := w.heap.size + 1) (o := 3) (by go_simp; with_reducible rfl)
 have fw5x1x3 := nameF H_hew5.out (b := w.heap.size + 1) (o := 3) (by go_simp)
 have kw5x1x4 := nameC H_hew5.out (b := w.heap.size + 1) (o := 4) (by go_simp; with_reducible rfl)
 have fw5x1x4 := nameF H_hew5.out (b := w.heap.size + 1) (o := 4) (by go_simp)
 have kw5x1x5 := nameC H_hew5.out (b := w.heap.size + 1) (o := 5) (by go_simp; with_reducible rfl)
 have fw5x1x5 := nameF H_hew5.out (b := w.heap.size + 1) (o := 5) (by go_simp)
 have kw5x1x6 := nameC H_hew5.out (b := w.heap.size + 1) (o := 6) (by go_simp; with_reducible rfl)
 have fw5x1x6 := nameF H_hew5.out (b := w.heap.size + 1) (o := 6) (by go_simp)
 have kw5x1x7 := nameC H_hew5.out (b := w.heap.size + 1) (o := 7) (by go_simp; with_reducible rfl)
 have fw5x1x7 := nameF H_hew5.out (b := w.heap.size + 1) (o := 7) (by go_simp)
 have zw5x1 : w.heap.size + 1 < w5.heap.size := by omega
 have kw5x2x0 := nameC H_hew5.out (b := w3.heap.size) (o := 0) (by go_simp; with_reducible rfl)
 have fw5x2x0 := nameF H_hew5.out (b := w3.heap.size) (o := 0) (by go_simp)
 have kw5x2x1 := nameC H_hew5.out (b := w3.heap.size) (o := 1) (by go_simp; with_reducible rfl)
 have fw5x2x1 := nameF H_hew5.out (b := w3.heap.size) (o := 1) (by go_simp)
 have kw5x2x2 := nameC H_hew5.out (b := w3.heap.size) (o := 2) (by go_simp; with_reducible rfl)
 have fw5x2x2 := nameF H_hew5.out (b := w3.heap.size) (o := 2) (by go_simp)
 have kw5x2x3 := nameC H_hew5.out (b := w3.heap.size) (o := 3) (by go_simp; with_reducible rfl)
 have fw5x2x3 := nameF H_hew5.out (b := w3.heap.size) (o := 3) (by go_simp)
 have zw5x2 : w3.heap.size < w5.heap.size := by omega
 clear gw4
 clear kw4x0x0
 clear fw4x0x0
 clear kw4x0x1
 clear fw4x0x1
 clear kw4x0x2
 clear fw4x0x2
 clear kw4x0x3
 clear fw4x0x3
 clear kw4x0x4
 clear fw4x0x4
 clear kw4x0x5
 clear fw4x0x5
 clear kw4x0x6
 clear fw4x0x6
 clear kw4x0x7
 clear fw4x0x7
 clear kw4x1x0
 clear fw4x1x0
 clear kw4x1x1
 clear fw4x1x1
 clear kw4x1x2
 clear fw4x1x2
 clear kw4x1x3
 clear fw4x1x3
 clear kw4x1x4
 clear fw4x1x4
 clear kw4x1x5
 clear fw4x1x5
 clear kw4x1x6
 clear fw4x1x6
 clear kw4x1x7
 clear fw4x1x7
 clear kw4x2x0
 clear fw4x2x0
 clear kw4x2x1
 clear fw4x2x1
 clear kw4x2x2
 clear fw4x2x2
 clear kw4x2x3
 clear fw4x2x3
 have hsz2 : w.heap.size + 2 ≤ w2.heap.size := by omega
 have sg5 : Seg w5 w2.heap.size w3.heap.size X l := by
  rw [← H_hew5.out]
  exact H_sg4.out.set (p := ⟨w3.heap.size, 3, none⟩) (.inr (Nat.le_refl _)) _
 have H_sg5 := Lib.hid sg5; clear sg5
 have h3 := H_h3.out
 clear H_h3 d1 d2
 rcases h3 with rfl | rfl | rfl | rfl
 ·go_wp2_with fail
  have hz0 : Z0 = x := by rw [H_e0.out]; simp
  have hz1 : Z1 = y := by rw [H_e1.out]; simp
  refine bodyPost_ret (v := .tuple #[.agg #[.int .i64 x.s, .int .i64 x.c, .slice A n p, .int .u64 x.u, .int .i64 y.s, .int .i64 y.c, .slice B m q, .int .u64 y.u], .int .i64 0]) (by simp [results, Tryz.results42, go_sem, *]) rfl ?_
  have sF := H_sg5.out
  generalize hFW : (World.setCell _ _ _) = F
  have gF : Below w.heap.size w F := by rw [← hFW]; exact belt
  have sF : Seg F w2.heap.size w3.heap.size X l := by
   rw [← hFW]
   repeat (refine Seg.set ?_ (by first | (left; simp; done) | (left; simp; omega) | (left; (try simp only []); omega) | (right; simp; done)) _)
   exact H_sg5.out
  rw [hz0, hz1]
  exact ⟨_, _, _, _, by (try dsimp only); rw [H_hx.out.len, H_hy.out.len], (H_hx.out.ints.below gF), (H_hy.out.ints.below gF), gF⟩
 ·go_wp2_with fail
  have hz0 : Z0 = ⟨(y.s + 1), c, l, (U + 1) % 18446744073709551616⟩ := by rw [H_e0.out, H_eS.out]; simp
  have hz1 : Z1 = y := by rw [H_e1.out]; simp
  refine bodyPost_ret (v := .tuple #[.agg #[.int .i64 (y.s + 1), .int .i64 c, .slice X k cx, .int .u64 (IntKind.u64.wrap (U + 1)), .int .i64 y.s, .int .i64 y.c, .slice B m q, .int .u64 y.u], .int .i64 0]) (by simp [results, Tryz.results42, go_sem, *]) rfl ?_
  have sF := H_sg5.out
  generalize hFW : (World.setCell _ _ _) = F
  have gF : Below w.heap.size w F := by rw [← hFW]; exact belt
  have sF : Seg F w2.heap.size w3.heap.size X l := by
   rw [← hFW]
   repeat (refine Seg.set ?_ (by first | (left; simp; done) | (left; simp; omega) | (left; (try simp only []); omega) | (right; simp; done)) _)
   exact H_sg5.out
  rw [hz0, hz1]
  exact ⟨_, _, _, _, by (try dsimp only); rw [H_hlk.out, H_hy.out.len, IntKind.wrap_u64], sF.ints, (H_hy.out.ints.below gF), gF⟩
 ·go_wp2_with fail
  have hz0 : Z0 = ⟨(y.s + 1), c, l, U⟩ := by rw [H_e0.out, H_eS.out]; simp
  have hz1 : Z1 = y := by rw [H_e1.out]; simp
  refine bodyPost_ret (v := .tuple #[.agg #[.int .i64 (y.s + 1), .int .i64 c, .slice X k cx, .int .u64 U, .int .i64 y.s, .int .i64 y.c, .slice B m q, .int .u64 y.u], .int .i64 0]) (by simp [results, Tryz.results42, go_sem, *]) rfl ?_
  have sF := H_sg5.out
  generalize hFW : (World.setCell _ _ _) = F
  have gF : Below w.heap.size w F := by rw [← hFW]; exact belt
  have sF : Seg F w2.heap.size w3.heap.size X l := by
   rw [← hFW]
   repeat (refine Seg.set ?_ (by first | (left; simp; done) | (left; simp; omega) | (left; (try simp only []); omega) | (right; simp; done)) _)
   exact H_sg5.out
  rw [hz0, hz1]
  exact ⟨_, _, _, _, by (try dsimp only); rw [H_hlk.out, H_hy.out.len], sF.ints, (H_hy.out.ints.below gF), gF⟩
 ·go_wp2_with fail
  have hz0 : Z0 = ⟨(y.s + 1), c, l, U⟩ := by rw [H_e0.out, H_eS.out]; simp
  have hz1 : Z1 = y := by rw [H_e1.out]; simp
  refine bodyPost_ret (v := .tuple #[.agg #[.int .i64 (y.s + 1), .int .i64 c, .slice X k cx, .int .u64 U, .int .i64 y.s, .int .i64 y.c, .slice B m q, .int .u64 y.u], .int .i64 0]) (by simp [results, Tryz.results42, go_sem, *]) rfl ?_
  have sF := H_sg5.out
  generalize hFW : (World.setCell _ _ _) = F
  have gF : Below w.heap.size w F := by rw [← hFW]; exact belt
  have sF : Seg F w2.heap.size w3.heap.size X l := by
   rw [← hFW]
   repeat (refine Seg.set ?_ (by first | (left; simp; done) | (left; simp; omega) | (left; (try simp only []); omega) | (right; simp; done)) _)
   exact H_sg5.out
  rw [hz0, hz1]
  exact ⟨_, _, _, _, by (try dsimp only); rw [H_hlk.out, H_hy.out.len], sF.ints, (H_hy.out.ints.below gF), gF⟩
set_option maxHeartbeats 8000000 in
theorem rwrite_make1 (x y : Slt) (c at_ : Int) (A : Option Addr) (n p : Nat) (B : Option Addr) (m q : Nat) (D : Option Addr) (k r : Nat) (l : List Int) (hlk : l.length = k) (w : World) (hx : SlotIs w A n x) (hy : SlotIs w B m y) (hc : -9223372036854775808 ≤ c ∧ c ≤ 9223372036854775807) (hl : IntsAt w D .i64 l) (hf : Fit l)
  (hE : bestB x y = true) (hI : bestI x y = 1) (EE : Int) (hEE : (EE != 0) = true) (hm : ∀ W, Below w.heap.size w W → Calls Tryz.prog 26 #[.int .i64 0, .int .i64 c, .slice D k r] W (SlotErr Slt.zero EE W)) :
  Calls Tryz.prog 42 #[.agg #[.int .i64 x.s, .int .i64 x.c, .slice A n p, .int .u64 x.u, .int .i64 y.s, .int .i64 y.c, .slice B m q, .int .u64 y.u], .int .i64 c, .slice D k r, .int .i64 at_] w (SlotsErr Slt.zero Slt.zero EE w) := by
 have b1 : Below w.heap.size w ((w.alloc (.cells #[.int .i64 x.s, .int .i64 x.c, .slice A n p, .int .u64 x.u, .int .i64 y.s, .int .i64 y.c, .slice B m q, .int .u64 y.u] 26)).alloc (.cells #[.int .i64 0, .int .i64 0, .slice none 0 0, .int .u64 0, .int .i64 0, .int .i64 0, .slice none 0 0, .int .u64 0] 26)) := ((Below.refl _ _).alloc (Nat.le_refl _) _).alloc (by simp) _
 have q3 := rbest_any x y A n p B m q _ (hx.below b1) (hy.below b1)
 rw [hE, hI] at q3
 have q1 := hm
 have ⟨H_hx, H_hy, H_hc, H_hl, H_hf, H_hE, H_hI, H_b1⟩ := hid8 hx hy hc hl hf hE hI b1; clear hx hy hc hl hf hE hI b1; have ⟨H_q1, H_q3, H_hlk, H_hm⟩ := hid4 q1 q3 hlk hm; clear q1 q3 hlk hm
 go_enter Tryz.func42, Tryz.ntmps42
 go_wp2_with fail
 refine (H_q3.out).mono ?_; rintro e w2 ⟨rfl, hbw2⟩
 have hsw2 := hbw2.size; (try simp only [World.size_alloc, World.heap_drewN, World.size_setCell, heap_drew] at hsw2)
 have gw2 : Below w.heap.size w w2 := belt
 have kw2x0x0 := keepc hbw2 (b := w.heap.size) (o := 0) omg (by go_simp; with_reducible rfl)
 have fw2x0x0 := keepf hbw2 (b := w.heap.size) (o := 0) omg (by go_simp)
 have kw2x0x1 := keepc hbw2 (b := w.heap.size) (o := 1) omg (by go_simp; with_reducible rfl)
 have fw2x0x1 := keepf hbw2 (b := w.heap.size) (o := 1) omg (by go_simp)
 have kw2x0x2 := keepc hbw2 (b := w.heap.size) (o := 2) omg (by go_simp; with_reducible rfl)
 have fw2x0x2 := keepf hbw2 (b := w.heap.size) (o := 2) omg (by go_simp)
 have kw2x0x3 := keepc hbw2 (b := w.heap.size) (o := 3) omg (by go_simp; with_reducible rfl)
 have fw2x0x3 := keepf hbw2 (b := w.heap.size) (o := 3) omg (by go_simp)
 have kw2x0x4 := keepc hbw2 (b := w.heap.size) (o := 4) omg (by go_simp; with_reducible rfl)
 have fw2x0x4 := keepf hbw2 (b := w.heap.size) (o := 4) omg (by go_simp)
 have kw2x0x5 := keepc hbw2 (b := w.heap.size) (o := 5) omg (by go_simp; with_reducible rfl)
 have fw2x0x5 := keepf hbw2 (b := w.heap.size) (o := 5) omg (by go_simp)
 have kw2x0x6 := keepc hbw2 (b := w.heap.size) (o := 6) omg (by go_simp; with_reducible rfl)
 have fw2x0x6 := keepf hbw2 (b := w.heap.size) (o := 6) omg (by go_simp)
 have kw2x0x7 := keepc hbw2 (b := w.heap.size) (o := 7) omg (by go_simp; with_reducible rfl)
 have fw2x0x7 := keepf hbw2 (b := w.heap.size) (o := 7) omg (by go_simp)
 have zw2x0 : w.heap.size < w2.heap.size := by omega
 have kw2x1x0 := keepc hbw2 (b := w.heap.size + 1) (o := 0) omg (by go_simp; with_reducible rfl)
 have fw2x1x0 := keepf hbw2 (b := w.heap.size + 1) (o := 0) omg (by go_simp)
 have kw2x1x1 := keepc hbw2 (b := w.heap.size + 1) (o := 1) omg (by go_simp; with_reducible rfl)
 have fw2x1x1 := keepf hbw2 (b := w.heap.size + 1) (o := 1) omg (by go_simp)
 have kw2x1x2 := keepc hbw2 (b := w.heap.size + 1) (o := 2) omg (by go_simp; with_reducible rfl)
 have fw2x1x2 := keepf hbw2 (b := w.heap.size + 1) (o := 2) omg (by go_simp)
 have kw2x1x3 := keepc hbw2 (b := w.heap.size + 1) (o := 3) omg (by go_simp; with_reducible rfl)
 have fw2x1x3 := keepf hbw2 (b := w.heap.size + 1) (o := 3) omg (by go_simp)
 have kw2x1x4 := keepc hbw2 (b := w.heap.size + 1) (o := 4) omg (by go_simp; with_reducible rfl)
 have fw2x1x4 := keepf hbw2 (b := w.heap.size + 1) (o := 4) omg (by go_simp)
 have kw2x1x5 := keepc hbw2 (b := w.heap.size + 1) (o := 5) omg (by go_simp; with_reducible rfl)
 have fw2x1x5 := keepf hbw2 (b := w.heap.size + 1) (o := 5) omg (by go_simp)
 have kw2x1x6 := keepc hbw2 (b := w.heap.size + 1) (o := 6) omg (by go_simp; with_reducible rfl)
 have fw2x1x6 := keepf hbw2 (b := w.heap.size + 1) (o := 6) omg (by go_simp)
 have kw2x1x7 := keepc hbw2 (b := w.heap.size + 1) (o := 7) omg (by go_simp; with_reducible rfl)
 have fw2x1x7 := keepf hbw2 (b := w.heap.size + 1) (o := 7) omg (by go_simp)
 have zw2x1 : w.heap.size + 1 < w2.heap.size := by omega
 have H_hbw2 := Lib.hid hbw2; clear hbw2
 have q1 := H_q1.out w2 gw2
 unfold SlotErr at q1
 dsimp only [Slt.zero] at q1
 try rw [H_hlk.out] at q1
 have H_q1 := Lib.hid q1; clear q1
 go_wp2_with fail
 refine (H_q1.out).mono ?_; rintro e w3 ⟨X, cx, rfl, ho, hbw3⟩
 have hsw3 := hbw3.size; (try simp only [World.size_alloc, World.heap_drewN, World.size_setCell, heap_drew] at hsw3)
 have gw3 : Below w.heap.size w w3 := belt
 have kw3x0x0 := keepc hbw3 (b := w.heap.size) (o := 0) omg (by go_simp; with_reducible rfl)
 have fw3x0x0 := keepf hbw3 (b := w.heap.size) (o := 0) omg (by go_simp)
 have kw3x0x1 := keepc hbw3 (b := w.heap.size) (o := 1) omg (by go_simp; with_reducible rfl)
 have fw3x0x1 := keepf hbw3 (b := w.heap.size) (o := 1) omg (by go_simp)
 have kw3x0x2 := keepc hbw3 (b := w.heap.size) (o := 2) omg (by go_simp; with_reducible rfl)
 have fw3x0x2 := keepf hbw3 (b := w.heap.size) (o := 2) omg (by go_simp)
 have kw3x0x3 := keepc hbw3 (b := w.heap.size) (o := 3) omg (by go_simp; with_reducible rfl)
 have fw3x0x3 := keepf hbw3 (b := w.heap.size) (o := 3) omg (by go_simp)
 have kw3x0x4 := keepc hbw3 (b := w.heap.size) (o := 4) omg (by go_simp; with_reducible rfl)
 have fw3x0x4 := keepf hbw3 (b := w.heap.size) (o := 4) omg (by go_simp)
 have kw3x0x5 := keepc hbw3 (b := w.heap.size) (o := 5) omg (by go_simp; with_reducible rfl)
 have fw3x0x5 := keepf hbw3 (b := w.heap.size) (o := 5) omg (by go_simp)
 have kw3x0x6 := keepc hbw3 (b := w.heap.size) (o := 6) omg (by go_simp; with_reducible rfl)
 have fw3x0x6 := keepf hbw3 (b := w.heap.size) (o := 6) omg (by go_simp)
 have kw3x0x7 := keepc hbw3 (b := w.heap.size) (o := 7) omg (by go_simp; with_reducible rfl)
 have fw3x0x7 := keepf hbw3 (b := w.heap.size) (o := 7) omg (by go_simp)
 have zw3x0 : w.heap.size < w3.heap.size := by omega
 have kw3x1x0 := keepc hbw3 (b := w.heap.size + 1) (o := 0) omg (by go_simp; with_reducible rfl)
 have fw3x1x0 := keepf hbw3 (b := w.heap.size + 1) (o := 0) omg (by go_simp)
 have kw3x1x1 := keepc hbw3 (b := w.heap.size + 1) (o := 1) omg (by go_simp; with_reducible rfl)
 have fw3x1x1 := keepf hbw3 (b := w.heap.size + 1) (o := 1) omg (by go_simp)
 have kw3x1x2 := keepc hbw3 (b := w.heap.size + 1) (o := 2) omg (by go_simp; with_reducible rfl)
 have fw3x1x2 := keepf hbw3 (b := w.heap.size + 1) (o := 2) omg (by go_simp)
 have kw3x1x3 := keepc hbw3 (b := w.heap.size + 1) (o := 3) omg (by go_simp; with_reducible rfl)
 have fw3x1x3 := keepf hbw3 (b := w.heap.size + 1) (o := 3) omg (by go_simp)
 have kw3x1x4 := keepc hbw3 (b := w.heap.size + 1) (o := 4) omg (by go_simp; with_reducible rfl)
 have fw3x1x4 := keepf hbw3 (b := w.heap.size + 1) (o := 4) omg (by go_simp)
 have kw3x1x5 := keepc hbw3 (b := w.heap.size + 1) (o := 5) omg (by go_simp; with_reducible rfl)
 have fw3x1x5 := keepf hbw3 (b := w.heap.size + 1) (o := 5) omg (by go_simp)
 have kw3x1x6 := keepc hbw3 (b := w.heap.size + 1) (o := 6) omg (by go_simp; with_reducible rfl)
 have fw3x1x6 := keepf hbw3 (b := w.heap.size + 1) (o := 6) omg (by go_simp)
 have kw3x1x7 := keepc hbw3 (b := w.heap.size + 1) (o := 7) omg (by go_simp; with_reducible rfl)
 have fw3x1x7 := keepf hbw3 (b := w.heap.size + 1) (o := 7) omg (by go_simp)
 have zw3x1 : w.heap.size + 1 < w3.heap.size := by omega
 have H_hbw3 := Lib.hid hbw3; clear hbw3
 clear gw2
 clear kw2x0x0
 clear fw2x0x0
 clear kw2x0x1
 clear fw2x0x1
 clear kw2x0x2
 clear fw2x0x2
 clear kw2x0x3
 clear fw2x0x3
 clear kw2x0x4
 clear fw2x0x4
 clear kw2x0x5
 clear fw2x0x5
 clear kw2x0x6
 clear fw2x0x6
 clear kw2x0x7
 clear fw2x0x7
 clear kw2x1x0
 clear fw2x1x0
 clear kw2x1x1
 clear fw2x1x1
 clear kw2x1x2
 clear fw2x1x2
 clear kw2x1x3
 clear fw2x1x3
 clear kw2x1x4
 clear fw2x1x4
 clear kw2x1x5
 clear fw2x1x5
 clear kw2x1x6
 clear fw2x1x6
 clear kw2x1x7
 clear fw2x1x7
 go_wp2_with fail
 refine bodyPost_ret (v := .tuple #[.agg #[.int .i64 0, .int .i64 0, .slice none 0 0, .int .u64 0, .int .i64 0, .int .i64 0, .slice none 0 0, .int .u64 0], .int .i64 EE]) (by simp [results, Tryz.results42, go_sem, *]) rfl (slotsErr_zero belt)
set_option maxHeartbeats 8000000 in
theorem rwrite_arg1 (x y : Slt) (c at_ : Int) (A : Option Addr) (n p : Nat) (B : Option Addr) (m q : Nat) (D : Option Addr) (k r : Nat) (l : List Int) (hlk : l.length = k) (w : World) (hx : SlotIs w A n x) (hy : SlotIs w B m y) (hc : -9223372036854775808 ≤ c ∧ c ≤ 9223372036854775807) (hl : IntsAt w D .i64 l) (hk : k ≤ 500) (hf : Fit l)
    (hE : bestB x y = true) (hI : bestI x y = 1) (hF : fldB 0 c l = true) (h3 : ¬ (0 ≤ at_ ∧ at_ ≤ 3)) :
    Calls Tryz.prog 42 #[.agg #[.int .i64 x.s, .int .i64 x.c, .slice A n p, .int .u64 x.u, .int .i64 y.s, .int .i64 y.c, .slice B m q, .int .u64 y.u], .int .i64 c, .slice D k r, .int .i64 at_] w (SlotsErr Slt.zero Slt.zero 1 w) := by
  have b1 : Below w.heap.size w ((w.alloc (.cells #[.int .i64 x.s, .int .i64 x.c, .slice A n p, .int .u64 x.u, .int .i64 y.s, .int .i64 y.c, .slice B m q, .int .u64 y.u] 26)).alloc (.cells #[.int .i64 0, .int .i64 0, .slice none 0 0, .int .u64 0, .int .i64 0, .int .i64 0, .slice none 0 0, .int .u64 0] 26)) := ((Below.refl _ _).alloc (Nat.le_refl _) _).alloc (by simp) _
  have q3 := rbest_any x y A n p B m q _ (hx.below b1) (hy.below b1)
  rw [hE, hI] at q3
  have q1 := fun W (hb : Below w.heap.size w W) => rmake_ok 0 c D r k l hlk W (by omega) hc (hl.below hb) hk hf hF
  rcases Int.lt_or_le at_ 0 with ha | ha
  all_goals
    have hh := h3
    clear h3
    first
    | have d1 : decide (at_ < 0) = true := decide_eq_true ha
    | (have d1 : decide (at_ < 0) = false := decide_eq_false (by omega)
       have d2 : decide (3 < at_) = true := decide_eq_true (by omega))
    have ⟨H_hx, H_hy, H_hc, H_hl, H_hf, H_hE, H_hI, H_b1⟩ := hid8 hx hy hc hl hf hE hI b1; clear hx hy hc hl hf hE hI b1; have ⟨H_q1, H_q3, H_hlk, H_hF, H_hh, H_ha⟩ := hid6 q1 q3 hlk hF hh ha; clear q1 q3 hlk hF hh ha
    go_enter Tryz.func42, Tryz.ntmps42
    go_wp2_with fail
    refine (H_q3.out).mono ?_; rintro e w2 ⟨rfl, hbw2⟩
    have hsw2 := hbw2.size; (try simp only [World.size_alloc, World.heap_drewN, World.size_setCell, heap_drew] at hsw2)
    have gw2 : Below w.heap.size w w2 := belt
    have kw2x0x0 := keepc hbw2 (b := w.heap.size) (o := 0) omg (by go_simp; with_reducible rfl)
    have fw2x0x0 := keepf hbw2 (b := w.heap.size) (o := 0) omg (by go_simp)
    have kw2x0x1 := keepc hbw2 (b := w.heap.size) (o := 1) omg (by go_simp; with_reducible rfl)
    have fw2x0x1 := keepf hbw2 (b := w.heap.size) (o := 1) omg (by go_simp)
    have kw2x0x2 := keepc hbw2 (b := w.heap.size) (o := 2) omg (by go_simp; with_reducible rfl)
    have fw2x0x2 := keepf hbw2 (b := w.heap.size) (o := 2) omg (by go_simp)
    have kw2x0x3 := keepc hbw2 (b := w.heap.size) (o := 3) omg (by go_simp; with_reducible rfl)
    have fw2x0x3 := keepf hbw2 (b := w.heap.size) (o := 3) omg (by go_simp)
    have kw2x0x4 := keepc hbw2 (b := w.heap.size) (o := 4) omg (by go_simp; with_reducible rfl)
    have fw2x0x4 := keepf hbw2 (b := w.heap.size) (o := 4) omg (by go_simp)
    have kw2x0x5 := keepc hbw2 (b := w.heap.size) (o := 5) omg (by go_simp; with_reducible rfl)
    have fw2x0x5 := keepf hbw2 (b := w.heap.size) (o := 5) omg (by go_simp)
    have kw2x0x6 := keepc hbw2 (b := w.heap.size) (o := 6) omg (by go_simp; with_reducible rfl)
    have fw2x0x6 := keepf hbw2 (b := w.heap.size) (o := 6) omg (by go_simp)
    have kw2x0x7 := keepc hbw2 (b := w.heap.size) (o := 7) omg (by go_simp; with_reducible rfl)
    have fw2x0x7 := keepf hbw2 (b := w.heap.size) (o := 7) omg (by go_simp)
    have zw2x0 : w.heap.size < w2.heap.size := by omega
    have kw2x1x0 := keepc hbw2 (b := w.heap.size + 1) (o := 0) omg (by go_simp; with_reducible rfl)
    have fw2x1x0 := keepf hbw2 (b := w.heap.size + 1) (o := 0) omg (by go_simp)
    have kw2x1x1 := keepc hbw2 (b := w.heap.size + 1) (o := 1) omg (by go_simp; with_reducible rfl)
    have fw2x1x1 := keepf hbw2 (b := w.heap.size + 1) (o := 1) omg (by go_simp)
    have kw2x1x2 := keepc hbw2 (b := w.heap.size + 1) (o := 2) omg (by go_simp; with_reducible rfl)
    have fw2x1x2 := keepf hbw2 (b := w.heap.size + 1) (o := 2) omg (by go_simp)
    have kw2x1x3 := keepc hbw2 (b := w.heap.size + 1) (o := 3) omg (by go_simp; with_reducible rfl)
    have fw2x1x3 := keepf hbw2 (b := w.heap.size + 1) (o := 3) omg (by go_simp)
    have kw2x1x4 := keepc hbw2 (b := w.heap.size + 1) (o := 4) omg (by go_simp; with_reducible rfl)
    have fw2x1x4 := keepf hbw2 (b := w.heap.size + 1) (o := 4) omg (by go_simp)
    have kw2x1x5 := keepc hbw2 (b := w.heap.size + 1) (o := 5) omg (by go_simp; with_reducible rfl)
    have fw2x1x5 := keepf hbw2 (b := w.heap.size + 1) (o := 5) omg (by go_simp)
    have kw2x1x6 := keepc hbw2 (b := w.heap.size + 1) (o := 6) omg (by go_simp; with_reducible rfl)
    have fw2x1x6 := keepf hbw2 (b := w.heap.size + 1) (o := 6) omg (by go_simp)
    have kw2x1x7 := keepc hbw2 (b := w.heap.size + 1) (o := 7) omg (by go_simp; with_reducible rfl)
    have fw2x1x7 := keepf hbw2 (b := w.heap.size + 1) (o := 7) omg (by go_simp)
    have zw2x1 : w.heap.size + 1 < w2.heap.size := by omega
    have H_hbw2 := Lib.hid hbw2; clear hbw2
    have q1 := H_q1.out w2 gw2
    unfold SlotErr at q1
    dsimp only [Slt.made] at q1
    try rw [H_hlk.out] at q1
    have H_q1 := Lib.hid q1; clear q1
    go_wp2_with fail
    refine (H_q1.out).mono ?_; rintro e w3 ⟨X, cx, rfl, ho, hbw3⟩
    have hsw3 := hbw3.size; (try simp only [World.size_alloc, World.heap_drewN, World.size_setCell, heap_drew] at hsw3)
    have gw3 : Below w.heap.size w w3 := belt
    have kw3x0x0 := keepc hbw3 (b := w.heap.size) (o := 0) omg (by go_simp; with_reducible rfl)
    have fw3x0x0 := keepf hbw3 (b := w.heap.size) (o := 0) omg (by go_simp)
    have kw3x0x1 := keepc hbw3 (b := w.heap.size) (o := 1) omg (by go_simp; with_reducible rfl)
    have fw3x0x1 := keepf hbw3 (b := w.heap.size) (o := 1) omg (by go_simp)
    have kw3x0x2 := keepc hbw3 (b := w.heap.size) (o := 2) omg (by go_simp; with_reducible rfl)
    have fw3x0x2 := keepf hbw3 (b := w.heap.size) (o := 2) omg (by go_simp)
    have kw3x0x3 := keepc hbw3 (b := w.heap.size) (o := 3) omg (by go_simp; with_reducible rfl)
    have fw3x0x3 := keepf hbw3 (b := w.heap.size) (o := 3) omg (by go_simp)
    have kw3x0x4 := keepc hbw3 (b := w.heap.size) (o := 4) omg (by go_simp; with_reducible rfl)
    have fw3x0x4 := keepf hbw3 (b := w.heap.size) (o := 4) omg (by go_simp)
    have kw3x0x5 := keepc hbw3 (b := w.heap.size) (o := 5) omg (by go_simp; with_reducible rfl)
    have fw3x0x5 := keepf hbw3 (b := w.heap.size) (o := 5) omg (by go_simp)
    have kw3x0x6 := keepc hbw3 (b := w.heap.size) (o := 6) omg (by go_simp; with_reducible rfl)
    have fw3x0x6 := keepf hbw3 (b := w.heap.size) (o := 6) omg (by go_simp)
    have kw3x0x7 := keepc hbw3 (b := w.heap.size) (o := 7) omg (by go_simp; with_reducible rfl)
    have fw3x0x7 := keepf hbw3 (b := w.heap.size) (o := 7) omg (by go_simp)
    have zw3x0 : w.heap.size < w3.heap.size := by omega
    have kw3x1x0 := keepc hbw3 (b := w.heap.size + 1) (o := 0) omg (by go_simp; with_reducible rfl)
    have fw3x1x0 := keepf hbw3 (b := w.heap.size + 1) (o := 0) omg (by go_simp)
    have kw3x1x1 := keepc hbw3 (b := w.heap.size + 1) (o := 1) omg (by go_simp; with_reducible rfl)
    have fw3x1x1 := keepf hbw3 (b := w.heap.size + 1) (o := 1) omg (by go_simp)
    have kw3x1x2 := keepc hbw3 (b := w.heap.size + 1) (o := 2) omg (by go_simp; with_reducible rfl)
    have fw3x1x2 := keepf hbw3 (b := w.heap.size + 1) (o := 2) omg (by go_simp)
    have kw3x1x3 := keepc hbw3 (b := w.heap.size + 1) (o := 3) omg (by go_simp; with_reducible rfl)
    have fw3x1x3 := keepf hbw3 (b := w.heap.size + 1) (o := 3) omg (by go_simp)
    have kw3x1x4 := keepc hbw3 (b := w.heap.size + 1) (o := 4) omg (by go_simp; with_reducible rfl)
    have fw3x1x4 := keepf hbw3 (b := w.heap.size + 1) (o := 4) omg (by go_simp)
    have kw3x1x5 := keepc hbw3 (b := w.heap.size + 1) (o := 5) omg (by go_simp; with_reducible rfl)
    have fw3x1x5 := keepf hbw3 (b := w.heap.size + 1) (o := 5) omg (by go_simp)
    have kw3x1x6 := keepc hbw3 (b := w.heap.size + 1) (o := 6) omg (by go_simp; with_reducible rfl)
    have fw3x1x6 := keepf hbw3 (b := w.heap.size + 1) (o := 6) omg (by go_simp)
    have kw3x1x7 := keepc hbw3 (b := w.heap.size + 1) (o := 7) omg (by go_simp; with_reducible rfl)
    have fw3x1x7 := keepf hbw3 (b := w.heap.size + 1) (o := 7) omg (by go_simp)
    have zw3x1 : w.heap.size + 1 < w3.heap.size := by omega
    have H_hbw3 := Lib.hid hbw3; clear hbw3
    clear gw2
    clear kw2x0x0
    clear fw2x0x0
    clear kw2x0x1
    clear fw2x0x1
    clear kw2x0x2
    clear fw2x0x2
    clear kw2x0x3
    clear fw2x0x3
    clear kw2x0x4
    clear fw2x0x4
    clear kw2x0x5
    clear fw2x0x5
    clear kw2x0x6
    clear fw2x0x6
    clear kw2x0x7
    clear fw2x0x7
    clear kw2x1x0
    clear fw2x1x0
    clear kw2x1x1
    clear fw2x1x1
    clear kw2x1x2
    clear fw2x1x2
    clear kw2x1x3
    clear fw2x1x3
    clear kw2x1x4
    clear fw2x1x4
    clear kw2x1x5
    clear fw2x1x5
    clear kw2x1x6
    clear fw2x1x6
    clear kw2x1x7
    clear fw2x1x7
    go_wp2_with fail
    refine bodyPost_ret (v := .tuple #[.agg #[.int .i64 0, .int .i64 0, .slice none 0 0, .int .u64 0, .int .i64 0, .int .i64 0, .slice none 0 0, .int .u64 0], .int .i64 1]) (by simp [results, Tryz.results42, go_sem, *]) rfl (slotsErr_zero belt)
set_option maxHeartbeats 8000000 in
theorem rwrite_range1 (x y : Slt) (c at_ : Int) (A : Option Addr) (n p : Nat) (B : Option Addr) (m q : Nat) (D : Option Addr) (k r : Nat) (l : List Int) (hlk : l.length = k) (w : World) (hx : SlotIs w A n x) (hy : SlotIs w B m y) (hc : -9223372036854775808 ≤ c ∧ c ≤ 9223372036854775807) (hl : IntsAt w D .i64 l) (hk : k ≤ 500) (hf : Fit l)
  (hE : bestB x y = true) (hI : bestI x y = 1) (hF : fldB 0 c l = true) (h3 : 0 ≤ at_ ∧ at_ ≤ 3) (hS : y.s = 1000000000) :
  Calls Tryz.prog 42 #[.agg #[.int .i64 x.s, .int .i64 x.c, .slice A n p, .int .u64 x.u, .int .i64 y.s, .int .i64 y.c, .slice B m q, .int .u64 y.u], .int .i64 c, .slice D k r, .int .i64 at_] w (SlotsErr Slt.zero Slt.zero 3 w) := by
 have b1 : Below w.heap.size w ((w.alloc (.cells #[.int .i64 x.s, .int .i64 x.c, .slice A n p, .int .u64 x.u, .int .i64 y.s, .int .i64 y.c, .slice B m q, .int .u64 y.u] 26)).alloc (.cells #[.int .i64 0, .int .i64 0, .slice none 0 0, .int .u64 0, .int .i64 0, .int .i64 0, .slice none 0 0, .int .u64 0] 26)) := ((Below.refl _ _).alloc (Nat.le_refl _) _).alloc (by simp) _
 have q3 := rbest_any x y A n p B m q _ (hx.below b1) (hy.below b1)
 rw [hE, hI] at q3
 have q1 := fun W (hb : Below w.heap.size w W) => rmake_ok 0 c D r k l hlk W (by omega) hc (hl.below hb) hk hf hF
 have d1 : decide (at_ < 0) = false := decide_eq_false (by omega)
 have d2 : decide (3 < at_) = false := decide_eq_false (by omega)
 have hS1 : (y.s == 1000000000) = true := by rw [hS]; rfl
 have ⟨H_hx, H_hy, H_hc, H_hl, H_hf, H_hE, H_hI, H_b1⟩ := hid8 hx hy hc hl hf hE hI b1; clear hx hy hc hl hf hE hI b1; have ⟨H_q1, H_q3, H_hlk, H_hF, H_h3, H_hS⟩ := hid6 q1 q3 hlk hF h3 hS; clear q1 q3 hlk hF h3 hS
 go_enter Tryz.func42, Tryz.ntmps42
 go_wp2_with fail
 refine (H_q3.out).mono ?_; rintro e w2 ⟨rfl, hbw2⟩
 have hsw2 := hbw2.size; (try simp only [World.size_alloc, World.heap_drewN, World.size_setCell, heap_drew] at hsw2)
 have gw2 : Below w.heap.size w w2 := belt
 have kw2x0x0 := keepc hbw2 (b := w.heap.size) (o := 0) omg (by go_simp; with_reducible rfl)
 have fw2x0x0 := keepf hbw2 (b := w.heap.size) (o := 0) omg (by go_simp)
 have kw2x0x1 := keepc hbw2 (b := w.heap.size) (o := 1) omg (by go_simp; with_reducible rfl)
 have fw2x0x1 := keepf hbw2 (b := w.heap.size) (o := 1) omg (by go_simp)
 have kw2x0x2 := keepc hbw2 (b := w.heap.size) (o := 2) omg (by go_simp; with_reducible rfl)
 have fw2x0x2 := keepf hbw2 (b := w.heap.size) (o := 2) omg (by go_simp)
 have kw2x0x3 := keepc hbw2 (b := w.heap.size) (o := 3) omg (by go_simp; with_reducible rfl)
 have fw2x0x3 := keepf hbw2 (b := w.heap.size) (o := 3) omg (by go_simp)
 have kw2x0x4 := keepc hbw2 (b := w.heap.size) (o := 4) omg (by go_simp; with_reducible rfl)
 have fw2x0x4 := keepf hbw2 (b := w.heap.size) (o := 4) omg (by go_simp)
 have kw2x0x5 := keepc hbw2 (b := w.heap.size) (o := 5) omg (by go_simp; with_reducible rfl)
 have fw2x0x5 := keepf hbw2 (b := w.heap.size) (o := 5) omg (by go_simp)
 have kw2x0x6 := keepc hbw2 (b := w.heap.size) (o := 6) omg (by go_simp; with_reducible rfl)
 have fw2x0x6 := keepf hbw2 (b := w.heap.size) (o := 6) omg (by go_simp)
 have kw2x0x7 := keepc hbw2 (b := w.heap.size) (o := 7) omg (by go_simp; with_reducible rfl)
 have fw2x0x7 := keepf hbw2 (b := w.heap.size) (o := 7) omg (by go_simp)
 have zw2x0 : w.heap.size < w2.heap.size := by omega
 have kw2x1x0 := keepc hbw2 (b := w.heap.size + 1) (o := 0) omg (by go_simp; with_reducible rfl)
 have fw2x1x0 := keepf hbw2 (b := w.heap.size + 1) (o := 0) omg (by go_simp)
 have kw2x1x1 := keepc hbw2 (b := w.heap.size + 1) (o := 1) omg (by go_simp; with_reducible rfl)
 have fw2x1x1 := keepf hbw2 (b := w.heap.size + 1) (o := 1) omg (by go_simp)
 have kw2x1x2 := keepc hbw2 (b := w.heap.size + 1) (o := 2) omg (by go_simp; with_reducible rfl)
 have fw2x1x2 := keepf hbw2 (b := w.heap.size + 1) (o := 2) omg (by go_simp)
 have kw2x1x3 := keepc hbw2 (b := w.heap.size + 1) (o := 3) omg (by go_simp; with_reducible rfl)
 have fw2x1x3 := keepf hbw2 (b := w.heap.size + 1) (o := 3) omg (by go_simp)
 have kw2x1x4 := keepc hbw2 (b := w.heap.size + 1) (o := 4) omg (by go_simp; with_reducible rfl)
 have fw2x1x4 := keepf hbw2 (b := w.heap.size + 1) (o := 4) omg (by go_simp)
 have kw2x1x5 := keepc hbw2 (b := w.heap.size + 1) (o := 5) omg (by go_simp; with_reducible rfl)
 have fw2x1x5 := keepf hbw2 (b := w.heap.size + 1) (o := 5) omg (by go_simp)
 have kw2x1x6 := keepc hbw2 (b := w.heap.size + 1) (o := 6) omg (by go_simp; with_reducible rfl)
 have fw2x1x6 := keepf hbw2 (b := w.heap.size + 1) (o := 6) omg (by go_simp)
 have kw2x1x7 := keepc hbw2 (b := w.heap.size + 1) (o := 7) omg (by go_simp; with_reducible rfl)
 have fw2x1x7 := keepf hbw2 (b := w.heap.size + 1) (o := 7) omg (by go_simp)
 have zw2x1 : w.heap.size + 1 < w2.heap.size := by omega
 have H_hbw2 := Lib.hid hbw2; clear hbw2
 have q1 := H_q1.out w2 gw2
 unfold SlotErr at q1
 dsimp only [Slt.made] at q1
 try rw [H_hlk.out] at q1
 have H_q1 := Lib.hid q1; clear q1
 go_wp2_with fail
 refine (H_q1.out).mono ?_; rintro e w3 ⟨X, cx, rfl, ho, hbw3⟩
 have hsw3 := hbw3.size; (try simp only [World.size_alloc, World.heap_drewN, World.size_setCell, heap_drew] at hsw3)
 have gw3 : Below w.heap.size w w3 := belt
 have kw3x0x0 := keepc hbw3 (b := w.heap.size) (o := 0) omg (by go_simp; with_reducible rfl)
 have fw3x0x0 := keepf hbw3 (b := w.heap.size) (o := 0) omg (by go_simp)
 have kw3x0x1 := keepc hbw3 (b := w.heap.size) (o := 1) omg (by go_simp; with_reducible rfl)
 have fw3x0x1 := keepf hbw3 (b := w.heap.size) (o := 1) omg (by go_simp)
 have kw3x0x2 := keepc hbw3 (b := w.heap.size) (o := 2) omg (by go_simp; with_reducible rfl)
 have fw3x0x2 := keepf hbw3 (b := w.heap.size) (o := 2) omg (by go_simp)
 have kw3x0x3 := keepc hbw3 (b := w.heap.size) (o := 3) omg (by go_simp; with_reducible rfl)
 have fw3x0x3 := keepf hbw3 (b := w.heap.size) (o := 3) omg (by go_simp)
 have kw3x0x4 := keepc hbw3 (b := w.heap.size) (o := 4) omg (by go_simp; with_reducible rfl)
 have fw3x0x4 := keepf hbw3 (b := w.heap.size) (o := 4) omg (by go_simp)
 have kw3x0x5 := keepc hbw3 (b := w.heap.size) (o := 5) omg (by go_simp; with_reducible rfl)
 have fw3x0x5 := keepf hbw3 (b := w.heap.size) (o := 5) omg (by go_simp)
 have kw3x0x6 := keepc hbw3 (b := w.heap.size) (o := 6) omg (by go_simp; with_reducible rfl)
 have fw3x0x6 := keepf hbw3 (b := w.heap.size) (o := 6) omg (by go_simp)
 have kw3x0x7 := keepc hbw3 (b := w.heap.size) (o := 7) omg (by go_simp; with_reducible rfl)
 have fw3x0x7 := keepf hbw3 (b := w.heap.size) (o := 7) omg (by go_simp)
 have zw3x0 : w.heap.size < w3.heap.size := by omega
 have kw3x1x0 := keepc hbw3 (b := w.heap.size + 1) (o := 0) omg (by go_simp; with_reducible rfl)
 have fw3x1x0 := keepf hbw3 (b := w.heap.size + 1) (o := 0) omg (by go_simp)
 have kw3x1x1 := keepc hbw3 (b := w.heap.size + 1) (o := 1) omg (by go_simp; with_reducible rfl)
 have fw3x1x1 := keepf hbw3 (b := w.heap.size + 1) (o := 1) omg (by go_simp)
 have kw3x1x2 := keepc hbw3 (b := w.heap.size + 1) (o := 2) omg (by go_simp; with_reducible rfl)
 have fw3x1x2 := keepf hbw3 (b := w.heap.size + 1) (o := 2) omg (by go_simp)
 have kw3x1x3 := keepc hbw3 (b := w.heap.size + 1) (o := 3) omg (by go_simp; with_reducible rfl)
 have fw3x1x3 := keepf hbw3 (b := w.heap.size + 1) (o := 3) omg (by go_simp)
 have kw3x1x4 := keepc hbw3 (b := w.heap.size + 1) (o := 4) omg (by go_simp; with_reducible rfl)
 have fw3x1x4 := keepf hbw3 (b := w.heap.size + 1) (o := 4) omg (by go_simp)
 have kw3x1x5 := keepc hbw3 (b := w.heap.size + 1) (o := 5) omg (by go_simp; with_reducible rfl)
 have fw3x1x5 := keepf hbw3 (b := w.heap.size + 1) (o := 5) omg (by go_simp)
 have kw3x1x6 := keepc hbw3 (b := w.heap.size + 1) (o := 6) omg (by go_simp; with_reducible rfl)
 have fw3x1x6 := keepf hbw3 (b := w.heap.size + 1) (o := 6) omg (by go_simp)
 have kw3x1x7 := keepc hbw3 (b := w.heap.size + 1) (o := 7) omg (by go_simp; with_reducible rfl)
 have fw3x1x7 := keepf hbw3 (b := w.heap.size + 1) (o := 7) omg (by go_simp)
 have zw3x1 : w.heap.size + 1 < w3.heap.size := by omega
 have H_hbw3 := Lib.hid hbw3; clear hbw3
 clear gw2
 clear kw2x0x0
 clear fw2x0x0
 clear kw2x0x1
 clear fw2x0x1
 clear kw2x0x2
 clear fw2x0x2
 clear kw2x0x3
 clear fw2x0x3
 clear kw2x0x4
 clear fw2x0x4
 clear kw2x0x5
 clear fw2x0x5
 clear kw2x0x6
 clear fw2x0x6
 clear kw2x0x7
 clear fw2x0x7
 clear kw2x1x0
 clear fw2x1x0
 clear kw2x1x1
 clear fw2x1x1
 clear kw2x1x2
 clear fw2x1x2
 clear kw2x1x3
 clear fw2x1x3
 clear kw2x1x4
 clear fw2x1x4
 clear kw2x1x5
 clear fw2x1x5
 clear kw2x1x6
 clear fw2x1x6
 clear kw2x1x7
 clear fw2x1x7
 go_wp2_with fail
 refine bodyPost_ret (v := .tuple #[.agg #[.int .i64 0, .int .i64 0, .slice none 0 0, .int .u64 0, .int .i64 0, .int .i64 0, .slice none 0 0, .int .u64 0], .int .i64 3]) (by simp [results, Tryz.results42, go_sem, *]) rfl (slotsErr_zero belt)
end Go.Proofs.YtoehobaigfmnpaaGreatDoor

/- Contracts of package slot: Write, whatever it is called with. -/
import Derived.Test.YtclgncaghiinhaaGreatDoorM8
set_option linter.unusedSimpArgs false
set_option linter.unusedVariables false
set_option maxRecDepth 100000
namespace Go.Proofs.YtclgncaghiinhaaGreatDoor
open Go.RowKit
set_option maxHeartbeats 4000000 in
theorem write_arg (x y : Slt) (c at_ : Int) (A : Option Addr) (n p : Nat) (B : Option Addr) (m q : Nat) (D : Option Addr) (k r : Nat) (l : List Int) (hlk : l.length = k) (w : World) (hx : SlotIs w A n x) (hy : SlotIs w B m y) (hc : -9223372036854775808 ≤ c ∧ c ≤ 9223372036854775807) (hl : IntsAt w D .i64 l) (hk : k ≤ 500) (hf : Fit l) (ht : Tab w)
    (hF : fldB 0 c l = true) (hat : wB at_ 0 3 = false) :
    Calls Tryz.prog 106 #[.agg #[.int .i64 x.s, .int .i64 x.c, .slice A n p, .int .u64 x.u, .int .i64 y.s, .int .i64 y.c, .slice B m q, .int .u64 y.u], .int .i64 c, .slice D k r, .int .i64 at_] w (SlotsErr Slt.zero Slt.zero 1 w) := by
  obtain ⟨w1, hw1⟩ : ∃ w1, (w.alloc (.cells #[.int .i64 x.s, .int .i64 x.c, .slice A n p, .int .u64 x.u, .int .i64 y.s, .int .i64 y.c, .slice B m q, .int .u64 y.u] 46)).alloc (.cells #[.int .i64 0, .int .i64 0, .slice none 0 0, .int .u64 0, .int .i64 0, .int .i64 0, .slice none 0 0, .int .u64 0] 46) = w1 := ⟨_, rfl⟩
  have b1 : Below w.heap.size w w1 := by rw [← hw1]; exact ((Below.refl _ _).alloc (Nat.le_refl _) _).alloc (by simp) _
  have s1 : w1.heap.size = w.heap.size + 2 := by rw [← hw1]; simp
  have q1 := make_ok 0 c D r k l hlk w1 (by omega) hc (hl.below b1) hk hf (ht.below b1) hF
  have q2 := fun W => swithin_any at_ 0 3 W
  rw [hat] at q2
  have q3 := fun W (h : SlotIs W A n x) (h2 : SlotIs W B m y) h3 => best_any x y A n p B m q W h h2 h3
  unfold SlotErr at q1
  dsimp only [Slt.made] at q1
  generalize sumS 0 c l = U0 at *
  rw [hlk] at q1
  rw [← hw1] at q1
  have ⟨H_hx, H_hy, H_hc, H_hl, H_hf, H_ht, H_hF, H_b1⟩ := hid8 hx hy hc hl hf ht hF b1; clear hx hy hc hl hf ht hF b1; have ⟨H_s1, H_hw1, H_q1, H_q2, H_q3, H_hat, H_hlk⟩ := hid7 s1 hw1 q1 q2 q3 hat hlk; clear s1 hw1 q1 q2 q3 hat hlk
  go_enter Tryz.func106, Tryz.ntmps106
  go_wp2_with fail
  refine (H_q1.out).mono ?_; rintro e w2 ⟨X, cx, rfl, ho, hbw2⟩
  have hsw2 := hbw2.size; (try simp only [World.size_alloc, World.heap_drewN, World.size_setCell, heap_drew] at hsw2)
  have gw2 : Below w.heap.size w w2 := belt
  have kw2x0x0 := keepc hbw2 (b := w.heap.size) (o := 0) omg (by go_simp; with_reducible rfl)
  have fw2x0x0 := keepf hbw2 (b := w.heap.size) (o := 0) omg (by go_simp)
  have kw2x0x1 := keepc hbw2 (b := w.heap.size) (o := 1) omg (by go_simp; with_reducible rfl)
  have fw2x0x1 := keepf hbw2 (b := w.heap.size) (o := 1) omg (by go_simp)
  have kw2x0x2 := keepc hbw2 (b := w.heap.size) (o := 2) omg (by go_simp; with_reducible rfl)
  have fw2x0x2 := keepf hbw2 (b := w.heap.size) (o := 2) omg (by go_simp)
  have kw2x0x3 := keepc hbw2 (b := w.heap.size) (o := 3) omg (by go_simp; with_reducible rfl)
  have fw2x0x3 := keepf hbw2 (b := w.heap.size) (o := 3) omg (by go_simp)
  have kw2x0x4 := keepc hbw2 (b := w.heap.size) (o := 4) omg (by go_simp; with_reducible rfl)
  have fw2x0x4 := keepf hbw2 (b := w.heap.size) (o := 4) omg (by go_simp)
  have kw2x0x5 := keepc hbw2 (b := w.heap.size) (o := 5) omg (by go_simp; with_reducible rfl)
  have fw2x0x5 := keepf hbw2 (b := w.heap.size) (o := 5) omg (by go_simp)
  have kw2x0x6 := keepc hbw2 (b := w.heap.size) (o := 6) omg (by go_simp; with_reducible rfl)
  have fw2x0x6 := keepf hbw2 (b := w.heap.size) (o := 6) omg (by go_simp)
  have kw2x0x7 := keepc hbw2 (b := w.heap.size) (o := 7) omg (by go_simp; with_reducible rfl)
  have fw2x0x7 := keepf hbw2 (b := w.heap.size) (o := 7) omg (by go_simp)
  have zw2x0 : w.heap.size < w2.heap.size := by omega
  have kw2x1x0 := keepc hbw2 (b := w.heap.size + 1) (o := 0) omg (by go_simp; with_reducible rfl)
  have fw2x1x0 := keepf hbw2 (b := w.heap.size + 1) (o := 0) omg (by go_simp)
  have kw2x1x1 := keepc hbw2 (b := w.heap.size + 1) (o := 1) omg (by go_simp; with_reducible rfl)
  have fw2x1x1 := keepf hbw2 (b := w.heap.size + 1) (o := 1) omg (by go_simp)
  have kw2x1x2 := keepc hbw2 (b := w.heap.size + 1) (o := 2) omg (by go_simp; with_reducible rfl)
  have fw2x1x2 := keepf hbw2 (b := w.heap.size + 1) (o := 2) omg (by go_simp)
  have kw2x1x3 := keepc hbw2 (b := w.heap.size + 1) (o := 3) omg (by go_simp; with_reducible rfl)
  have fw2x1x3 := keepf hbw2 (b := w.heap.size + 1) (o := 3) omg (by go_simp)
  have kw2x1x4 := keepc hbw2 (b := w.heap.size + 1) (o := 4) omg (by go_simp; with_reducible rfl)
  have fw2x1x4 := keepf hbw2 (b := w.heap.size + 1) (o := 4) omg (by go_simp)
  have kw2x1x5 := keepc hbw2 (b := w.heap.size + 1) (o := 5) omg (by go_simp; with_reducible rfl)
  have fw2x1x5 := keepf hbw2 (b := w.heap.size + 1) (o := 5) omg (by go_simp)
  have kw2x1x6 := keepc hbw2 (b := w.heap.size + 1) (o := 6) omg (by go_simp; with_reducible rfl)
  have fw2x1x6 := keepf hbw2 (b := w.heap.size + 1) (o := 6) omg (by go_simp)
  have kw2x1x7 := keepc hbw2 (b := w.heap.size + 1) (o := 7) omg (by go_simp; with_reducible rfl)
  have fw2x1x7 := keepf hbw2 (b := w.heap.size + 1) (o := 7) omg (by go_simp)
  have zw2x1 : w.heap.size + 1 < w2.heap.size := by omega
  have H_hbw2 := Lib.hid hbw2; clear hbw2
  rw [H_hw1.out] at H_hbw2
  have hsz2 := H_hbw2.out.size
  rw [H_s1.out] at hsz2
  have hne1 : w.heap.size ≠ w2.heap.size := by omega
  have hne2 : w2.heap.size ≠ w.heap.size := by omega
  have hne3 : w.heap.size + 1 ≠ w2.heap.size := by omega
  have hne4 : w2.heap.size ≠ w.heap.size + 1 := by omega
  have H_ho := Lib.hid ho; clear ho
  go_wp2_with fail
  refine (H_q2.out _).mono ?_
  rintro e w_ ⟨rfl, rfl⟩
  go_wp2_with fail
  refine bodyPost_ret (v := .tuple #[.agg #[.int .i64 0, .int .i64 0, .slice none 0 0, .int .u64 0, .int .i64 0, .int .i64 0, .slice none 0 0, .int .u64 0], .int .i64 1]) (by simp [results, Tryz.results106, go_sem, *]) rfl (slotsErr_zero belt)
set_option maxHeartbeats 4000000 in
theorem write_r0 (x y : Slt) (c at_ : Int) (A : Option Addr) (n p : Nat) (B : Option Addr) (m q : Nat) (D : Option Addr) (k r : Nat) (l : List Int) (hlk : l.length = k) (w : World) (hx : SlotIs w A n x) (hy : SlotIs w B m y) (hc : -9223372036854775808 ≤ c ∧ c ≤ 9223372036854775807) (hl : IntsAt w D .i64 l) (hk : k ≤ 500) (hf : Fit l) (ht : Tab w)
    (hF : fldB 0 c l = true) (hat : wB at_ 0 3 = true) (hE : bestB x y = true) (hI : bestI x y = 0) (hS : x.s = 1000000000) :
    Calls Tryz.prog 106 #[.agg #[.int .i64 x.s, .int .i64 x.c, .slice A n p, .int .u64 x.u, .int .i64 y.s, .int .i64 y.c, .slice B m q, .int .u64 y.u], .int .i64 c, .slice D k r, .int .i64 at_] w (SlotsErr Slt.zero Slt.zero 3 w) := by
  obtain ⟨w1, hw1⟩ : ∃ w1, (w.alloc (.cells #[.int .i64 x.s, .int .i64 x.c, .slice A n p, .int .u64 x.u, .int .i64 y.s, .int .i64 y.c, .slice B m q, .int .u64 y.u] 46)).alloc (.cells #[.int .i64 0, .int .i64 0, .slice none 0 0, .int .u64 0, .int .i64 0, .int .i64 0, .slice none 0 0, .int .u64 0] 46) = w1 := ⟨_, rfl⟩
  have b1 : Below w.heap.size w w1 := by rw [← hw1]; exact ((Below.refl _ _).alloc (Nat.le_refl _) _).alloc (by simp) _
  have s1 : w1.heap.size = w.heap.size + 2 := by rw [← hw1]; simp
  have q1 := make_ok 0 c D r k l hlk w1 (by omega) hc (hl.below b1) hk hf (ht.below b1) hF
  have q2 := fun W => swithin_any at_ 0 3 W
  rw [hat] at q2
  have q3 := fun W (h : SlotIs W A n x) (h2 : SlotIs W B m y) h3 => best_any x y A n p B m q W h h2 h3
  rw [hE, hI] at q3
  have hS1 : (x.s == 1000000000) = true := by rw [hS]; rfl
  unfold SlotErr at q1
  dsimp only [Slt.made] at q1
  generalize sumS 0 c l = U0 at *
  rw [hlk] at q1
  rw [← hw1] at q1
  have ⟨H_hx, H_hy, H_hc, H_hl, H_hf, H_ht, H_hF, H_hE⟩ := hid8 hx hy hc hl hf ht hF hE; clear hx hy hc hl hf ht hF hE; have ⟨H_hI, H_hS, H_b1, H_s1, H_hw1, H_q1, H_q2, H_q3⟩ := hid8 hI hS b1 s1 hw1 q1 q2 q3; clear hI hS b1 s1 hw1 q1 q2 q3; have ⟨H_hat, H_hlk⟩ := hid2 hat hlk; clear hat hlk
  go_enter Tryz.func106, Tryz.ntmps106
  go_wp2_with fail
  refine (H_q1.out).mono ?_; rintro e w2 ⟨X, cx, rfl, ho, hbw2⟩
  have hsw2 := hbw2.size; (try simp only [World.size_alloc, World.heap_drewN, World.size_setCell, heap_drew] at hsw2)
  have gw2 : Below w.heap.size w w2 := belt
  have kw2x0x0 := keepc hbw2 (b := w.heap.size) (o := 0) omg (by go_simp; with_reducible rfl)
  have fw2x0x0 := keepf hbw2 (b := w.heap.size) (o := 0) omg (by go_simp)
  have kw2x0x1 := keepc hbw2 (b := w.heap.size) (o := 1) omg (by go_simp; with_reducible rfl)
  have fw2x0x1 := keepf hbw2 (b := w.heap.size) (o := 1) omg (by go_simp)
  have kw2x0x2 := keepc hbw2 (b := w.heap.size) (o := 2) omg (by go_simp; with_reducible rfl)
  have fw2x0x2 := keepf hbw2 (b := w.heap.size) (o := 2) omg (by go_simp)
  have kw2x0x3 := keepc hbw2 (b := w.heap.size) (o := 3) omg (by go_simp; with_reducible rfl)
  have fw2x0x3 := keepf hbw2 (b := w.heap.size) (o := 3) omg (by go_simp)
  have kw2x0x4 := keepc hbw2 (b := w.heap.size) (o := 4) omg (by go_simp; with_reducible rfl)
  have fw2x0x4 := keepf hbw2 (b := w.heap.size) (o := 4) omg (by go_simp)
  have kw2x0x5 := keepc hbw2 (b := w.heap.size) (o := 5) omg (by go_simp; with_reducible rfl)
  have fw2x0x5 := keepf hbw2 (b := w.heap.size) (o := 5) omg (by go_simp)
  have kw2x0x6 := keepc hbw2 (b := w.heap.size) (o := 6) omg (by go_simp; with_reducible rfl)
  have fw2x0x6 := keepf hbw2 (b := w.heap.size) (o := 6) omg (by go_simp)
  have kw2x0x7 := keepc hbw2 (b := w.heap.size) (o := 7) omg (by go_simp; with_reducible rfl)
  have fw2x0x7 := keepf hbw2 (b := w.heap.size) (o := 7) omg (by go_simp)
  have zw2x0 : w.heap.size < w2.heap.size := by omega
  have kw2x1x0 := keepc hbw2 (b := w.heap.size + 1) (o := 0) omg (by go_simp; with_reducible rfl)
  have fw2x1x0 := keepf hbw2 (b := w.heap.size + 1) (o := 0) omg (by go_simp)
  have kw2x1x1 := keepc hbw2 (b := w.heap.size + 1) (o := 1) omg (by go_simp; with_reducible rfl)
  have fw2x1x1 := keepf hbw2 (b := w.heap.size + 1) (o := 1) omg (by go_simp)
  have kw2x1x2 := keepc hbw2 (b := w.heap.size + 1) (o := 2) omg (by go_simp; with_reducible rfl)
  have fw2x1x2 := keepf hbw2 (b := w.heap.size + 1) (o := 2) omg (by go_simp)
  have kw2x1x3 := keepc hbw2 (b := w.heap.size + 1) (o := 3) omg (by go_simp; with_reducible rfl)
  have fw2x1x3 := keepf hbw2 (b := w.heap.size + 1) (o := 3) omg (by go_simp)
  have kw2x1x4 := keepc hbw2 (b := w.heap.size + 1) (o := 4) omg (by go_simp; with_reducible rfl)
  have fw2x1x4 := keepf hbw2 (b := w.heap.size + 1) (o := 4) omg (by go_simp)
  have kw2x1x5 := keepc hbw2 (b := w.heap.size + 1) (o := 5) omg (by go_simp; with_reducible rfl)
  have fw2x1x5 := keepf hbw2 (b := w.heap.size + 1) (o := 5) omg (by go_simp)
  have kw2x1x6 := keepc hbw2 (b := w.heap.size + 1) (o := 6) omg (by go_simp; with_reducible rfl)
  have fw2x1x6 := keepf hbw2 (b := w.heap.size + 1) (o := 6) omg (by go_simp)
  have kw2x1x7 := keepc hbw2 (b := w.heap.size + 1) (o := 7) omg (by go_simp; with_reducible rfl)
  have fw2x1x7 := keepf hbw2 (b := w.heap.size + 1) (o := 7) omg (by go_simp)
  have zw2x1 : w.heap.size + 1 < w2.heap.size := by omega
  have H_hbw2 := Lib.hid hbw2; clear hbw2
  rw [H_hw1.out] at H_hbw2
  have hsz2 := H_hbw2.out.size
  rw [H_s1.out] at hsz2
  have hne1 : w.heap.size ≠ w2.heap.size := by omega
  have hne2 : w2.heap.size ≠ w.heap.size := by omega
  have hne3 : w.heap.size + 1 ≠ w2.heap.size := by omega
  have hne4 : w2.heap.size ≠ w.heap.size + 1 := by omega
  have H_ho := Lib.hid ho; clear ho
  go_wp2_with fail
  refine (H_q2.out _).mono ?_
  rintro e w_ ⟨rfl, rfl⟩
  go_wp2_with fail
  have gq : Below w.heap.size w (w2.alloc (.cells #[.int .i64 0, .int .i64 c, .slice X k cx, .int .u64 U0] 45)) := gw2.alloc gw2.size _
  have q3 := H_q3.out _ (H_hx.out.below gq) (H_hy.out.below gq) (H_ht.out.below gq)
  have ⟨H_gq, H_q3⟩ := hid2 gq q3; clear gq q3
  refine (H_q3.out).mono ?_; rintro e w3 ⟨rfl, hbw3⟩
  have hsw3 := hbw3.size; (try simp only [World.size_alloc, World.heap_drewN, World.size_setCell, heap_drew] at hsw3)
  have gw3 : Below w.heap.size w w3 := belt
  have kw3x0x0 := keepc hbw3 (b := w.heap.size) (o := 0) omg (by go_simp; with_reducible rfl)
  have fw3x0x0 := keepf hbw3 (b := w.heap.size) (o := 0) omg (by go_simp)
  have kw3x0x1 := keepc hbw3 (b := w.heap.size) (o := 1) omg (by go_simp; with_reducible rfl)
  have fw3x0x1 := keepf hbw3 (b := w.heap.size) (o := 1) omg (by go_simp)
  have kw3x0x2 := keepc hbw3 (b := w.heap.size) (o := 2) omg (by go_simp; with_reducible rfl)
  have fw3x0x2 := keepf hbw3 (b := w.heap.size) (o := 2) omg (by go_simp)
  have kw3x0x3 := keepc hbw3 (b := w.heap.size) (o := 3) omg (by go_simp; with_reducible rfl)
  have fw3x0x3 := keepf hbw3 (b := w.heap.size) (o := 3) omg (by go_simp)
  have kw3x0x4 := keepc hbw3 (b := w.heap.size) (o := 4) omg (by go_simp; with_reducible rfl)
  have fw3x0x4 := keepf hbw3 (b := w.heap.size) (o := 4) omg (by go_simp)
  have kw3x0x5 := keepc hbw3 (b := w.heap.size) (o := 5) omg (by go_simp; with_reducible rfl)
  have fw3x0x5 := keepf hbw3 (b := w.heap.size) (o := 5) omg (by go_simp)
  have kw3x0x6 := keepc hbw3 (b := w.heap.size) (o := 6) omg (by go_simp; with_reducible rfl)
  have fw3x0x6 := keepf hbw3 (b := w.heap.size) (o := 6) omg (by go_simp)
  have kw3x0x7 := keepc hbw3 (b := w.heap.size) (o := 7) omg (by go_simp; with_reducible rfl)
  have fw3x0x7 := keepf hbw3 (b := w.heap.size) (o := 7) omg (by go_simp)
  have zw3x0 : w.heap.size < w3.heap.size := by omega
  have kw3x1x0 := keepc hbw3 (b := w.heap.size + 1) (o := 0) omg (by go_simp; with_reducible rfl)
  have fw3x1x0 := keepf hbw3 (b := w.heap.size + 1) (o := 0) omg (by go_simp)
  have kw3x1x1 := keepc hbw3 (b := w.heap.size + 1) (o := 1) omg (by go_simp; with_reducible rfl)
  have fw3x1x1 := keepf hbw3 (b := w.heap.size + 1) (o := 1) omg (by go_simp)
  have kw3x1x2 := keepc hbw3 (b := w.heap.size + 1) (o := 2) omg (by go_simp; with_reducible rfl)
  have fw3x1x2 := keepf hbw3 (b := w.heap.size + 1) (o := 2) omg (by go_simp)
  have kw3x1x3 := keepc hbw3 (b := w.heap.size + 1) (o := 3) omg (by go_simp; with_reducible rfl)
  have fw3x1x3 := keepf hbw3 (b := w.heap.size + 1) (o := 3) omg (by go_simp)
  have kw3x1x4 := keepc hbw3 (b := w.heap.size + 1) (o := 4) omg (by go_simp; with_reducible rfl)
  have fw3x1x4 := keepf hbw3 (b := w.heap.size + 1) (o := 4) omg (by go_simp)
  have kw3x1x5 := keepc hbw3 (b := w.heap.size + 1) (o := 5) omg (by go_simp; with_reducible rfl)
  have fw3x1x5 := keepf hbw3 (b := w.heap.size + 1) (o := 5) omg (by go_simp)
  have kw3x1x6 := keepc hbw3 (b := w.heap.size + 1) (o := 6) omg (by go_simp; with_reducible rfl)
  have fw3x1x6 := keepf hbw3 (b := w.heap.size + 1) (o := 6) omg (by go_simp)
  have kw3x1x7 := keepc hbw3 (b := w.heap.size + 1) (o := 7) omg (by go_simp; with_reducible rfl)
  have fw3x1x7 := keepf hbw3 (b := w.heap.size + 1) (o := 7) omg (by go_simp)
  have zw3x1 : w.heap.size + 1 < w3.heap.size := by omega
  have kw3x2x0 := keepc hbw3 (b := w2.heap.size) (o := 0) omg (by go_simp; with_reducible rfl)
  have fw3x2x0 := keepf hbw3 (b := w2.heap.size) (o := 0) omg (by go_simp)
  have kw3x2x1 := keepc hbw3 (b := w2.heap.size) (o := 1) omg (by go_simp; with_reducible rfl)
  have fw3x2x1 := keepf hbw3 (b := w2.heap.size) (o := 1) omg (by go_simp)
  have kw3x2x2 := keepc hbw3 (b := w2.heap.size) (o := 2) omg (by go_simp; with_reducible rfl)
  have fw3x2x2 := keepf hbw3 (b := w2.heap.size) (o := 2) omg (by go_simp)
  have kw3x2x3 := keepc hbw3 (b := w2.heap.size) (o := 3) omg (by go_simp; with_reducible rfl)
  have fw3x2x3 := keepf hbw3 (b := w2.heap.size) (o := 3) omg (by go_simp)
  have zw3x2 : w2.heap.size < w3.heap.size := by omega
  have H_hbw3 := Lib.hid hbw3; clear hbw3
  clear gw2
  clear kw2x0x0
  clear fw2x0x0
  clear kw2x0x1
  clear fw2x0x1
  clear kw2x0x2
  clear fw2x0x2
  clear kw2x0x3
  clear fw2x0x3
  clear kw2x0x4
  clear fw2x0x4
  clear kw2x0x5
  clear fw2x0x5
  clear kw2x0x6
  clear fw2x0x6
  clear kw2x0x7
  clear fw2x0x7
  clear kw2x1x0
  clear fw2x1x0
  clear kw2x1x1
  clear fw2x1x1
  clear kw2x1x2
  clear fw2x1x2
  clear kw2x1x3
  clear fw2x1x3
  clear kw2x1x4
  clear fw2x1x4
  clear kw2x1x5
  clear fw2x1x5
  clear kw2x1x6
  clear fw2x1x6
  clear kw2x1x7
  clear fw2x1x7
  clear H_hbw2 H_hbw3
  go_wp2_with fail
  refine wp_region_held_drew (S := (fun W => W.cell? ⟨w.heap.size, 0, none⟩ = some (.int .i64 x.s))) (by kernel_rfl) ?_ (fun hHeld => ?_)
  · (try dsimp only); go_keep
  refine take_at (i := 0) (some 35) rfl rfl (by kernel_rfl) (fun _ _ _ h => h) (by rfl) (v := ?_) ?_ (by assumption) ?_
  rotate_left
  · intro W hSw; (try dsimp only at hSw); go_simp; (try with_reducible rfl)
  (try simp only [apz])
  refine take_at (i := 1) (some 36) rfl rfl (by kernel_rfl) (fun _ _ _ h => h) (by rfl) (v := ?_) ?_ (by assumption) ?_
  rotate_left
  · intro W hSw; (try dsimp only at hSw); go_simp; (try with_reducible rfl)
  (try simp only [apz])
  refine take_at (i := 2) (some 37) rfl rfl (by kernel_rfl) (fun _ _ _ h => h) (by rfl) (v := ?_) ?_ (by assumption) ?_
  rotate_left
  · intro W hSw; (try dsimp only at hSw); go_simp; (try with_reducible rfl)
  (try simp only [apz])
  refine take_at (i := 3) (some 38) rfl rfl (by kernel_rfl) (fun _ _ _ h => h) (by rfl) (v := ?_) ?_ (by assumption) ?_
  rotate_left
  · intro W hSw; (try dsimp only at hSw); go_simp; (try with_reducible rfl)
  (try simp only [apz])
  refine take_at (i := 4) (some 39) rfl rfl (by kernel_rfl) (fun _ _ _ h => h) (by rfl) (v := ?_) ?_ (by assumption) ?_
  rotate_left
  · intro W hSw; (try dsimp only at hSw); go_simp; (try with_reducible rfl)
  (try simp only [apz])
  refine take_at (i := 5) (some 40) rfl rfl (by kernel_rfl) (fun _ _ _ h => h) (by rfl) (v := ?_) ?_ (by assumption) ?_
  rotate_left
  · intro W hSw; (try dsimp only at hSw); go_simp; (try with_reducible rfl)
  (try simp only [apz])
  refine take_at (i := 6) (some 12) rfl rfl (by kernel_rfl) (fun _ _ _ h => h) (by rfl) (v := ?_) ?_ (by assumption) ?_
  rotate_left
  · intro W hSw; (try dsimp only at hSw); go_simp; (try with_reducible rfl)
  (try simp only [apz])
  refine take_at (i := 7) (some 41) rfl rfl (by kernel_rfl) (fun _ _ _ h => h) (by rfl) (v := ?_) ?_ (by assumption) ?_
  rotate_left
  · intro W hSw; (try dsimp only at hSw); go_simp; (try with_reducible rfl)
  (try simp only [apz])
  refine wpAnyH_ready (rs := [8]) (by kernel_rfl) (by simp) ?_
  refine AllReadyH.cons rfl (fun K hK => ?_) AllReadyH.nil
  go_simp
  refine hK.out _ _ ?_ (fun hHeld => ?_)
  · (try dsimp only); go_keep
  clear hK K
  (try simp only [apz])
  refine wpAnyH_done (by kernel_rfl) ?_ _
  go_wp2_with fail
  refine bodyPost_ret (v := .tuple #[.agg #[.int .i64 0, .int .i64 0, .slice none 0 0, .int .u64 0, .int .i64 0, .int .i64 0, .slice none 0 0, .int .u64 0], .int .i64 3]) (by simp [results, Tryz.results106, go_sem, *]) rfl (slotsErr_zero belt)
set_option maxHeartbeats 4000000 in
theorem write_r1 (x y : Slt) (c at_ : Int) (A : Option Addr) (n p : Nat) (B : Option Addr) (m q : Nat) (D : Option Addr) (k r : Nat) (l : List Int) (hlk : l.length = k) (w : World) (hx : SlotIs w A n x) (hy : SlotIs w B m y) (hc : -9223372036854775808 ≤ c ∧ c ≤ 9223372036854775807) (hl : IntsAt w D .i64 l) (hk : k ≤ 500) (hf : Fit l) (ht : Tab w)
    (hF : fldB 0 c l = true) (hat : wB at_ 0 3 = true) (hE : bestB x y = true) (hI : bestI x y = 1) (hS : y.s = 1000000000) :
    Calls Tryz.prog 106 #[.agg #[.int .i64 x.s, .int .i64 x.c, .slice A n p, .int .u64 x.u, .int .i64 y.s, .int .i64 y.c, .slice B m q, .int .u64 y.u], .int .i64 c, .slice D k r, .int .i64 at_] w (SlotsErr Slt.zero Slt.zero 3 w) := by
  obtain ⟨w1, hw1⟩ : ∃ w1, (w.alloc (.cells #[.int .i64 x.s, .int .i64 x.c, .slice A n p, .int .u64 x.u, .int .i64 y.s, .int .i64 y.c, .slice B m q, .int .u64 y.u] 46)).alloc (.cells #[.int .i64 0, .int .i64 0, .slice none 0 0, .int .u64 0, .int .i64 0, .int .i64 0, .slice none 0 0, .int .u64 0] 46) = w1 := ⟨_, rfl⟩
  have b1 : Below w.heap.size w w1 := by rw [← hw1]; exact ((Below.refl _ _).alloc (Nat.le_refl _) _).alloc (by simp) _
  have s1 : w1.heap.size = w.heap.size + 2 := by rw [← hw1]; simp
  have q1 := make_ok 0 c D r k l hlk w1 (by omega) hc (hl.below b1) hk hf (ht.below b1) hF
  have q2 := fun W => swithin_any at_ 0 3 W
  rw [hat] at q2
  have q3 := fun W (h : SlotIs W A n x) (h2 : SlotIs W B m y) h3 => best_any x y A n p B m q W h h2 h3
  rw [hE, hI] at q3
  have hS1 : (y.s == 1000000000) = true := by rw [hS]; rfl
  unfold SlotErr at q1
  dsimp only [Slt.made] at q1
  generalize sumS 0 c l = U0 at *
  rw [hlk] at q1
  rw [← hw1] at q1
  have ⟨H_hx, H_hy, H_hc, H_hl, H_hf, H_ht, H_hF, H_hE⟩ := hid8 hx hy hc hl hf ht hF hE; clear hx hy hc hl hf ht hF hE; have ⟨H_hI, H_hS, H_b1, H_s1, H_hw1, H_q1, H_q2, H_q3⟩ := hid8 hI hS b1 s1 hw1 q1 q2 q3; clear hI hS b1 s1 hw1 q1 q2 q3; have ⟨H_hat, H_hlk⟩ := hid2 hat hlk; clear hat hlk
  go_enter Tryz.func106, Tryz.ntmps106
  go_wp2_with fail
  refine (H_q1.out).mono ?_; rintro e w2 ⟨X, cx, rfl, ho, hbw2⟩
  have hsw2 := hbw2.size; (try simp only [World.size_alloc, World.heap_drewN, World.size_setCell, heap_drew] at hsw2)
  have gw2 : Below w.heap.size w w2 := belt
  have kw2x0x0 := keepc hbw2 (b := w.heap.size) (o := 0) omg (by go_simp; with_reducible rfl)
  have fw2x0x0 := keepf hbw2 (b := w.heap.size) (o := 0) omg (by go_simp)
  have kw2x0x1 := keepc hbw2 (b := w.heap.size) (o := 1) omg (by go_simp; with_reducible rfl)
  have fw2x0x1 := keepf hbw2 (b := w.heap.size) (o := 1) omg (by go_simp)
  have kw2x0x2 := keepc hbw2 (b := w.heap.size) (o := 2) omg (by go_simp; with_reducible rfl)
  have fw2x0x2 := keepf hbw2 (b := w.heap.size) (o := 2) omg (by go_simp)
  have kw2x0x3 := keepc hbw2 (b := w.heap.size) (o := 3) omg (by go_simp; with_reducible rfl)
  have fw2x0x3 := keepf hbw2 (b := w.heap.size) (o := 3) omg (by go_simp)
  have kw2x0x4 := keepc hbw2 (b := w.heap.size) (o := 4) omg (by go_simp; with_reducible rfl)
  have fw2x0x4 := keepf hbw2 (b := w.heap.size) (o := 4) omg (by go_simp)
  have kw2x0x5 := keepc hbw2 (b := w.heap.size) (o := 5) omg (by go_simp; with_reducible rfl)
  have fw2x0x5 := keepf hbw2 (b := w.heap.size) (o := 5) omg (by go_simp)
  have kw2x0x6 := keepc hbw2 (b := w.heap.size) (o := 6) omg (by go_simp; with_reducible rfl)
  have fw2x0x6 := keepf hbw2 (b := w.heap.size) (o := 6) omg (by go_simp)
  have kw2x0x7 := keepc hbw2 (b := w.heap.size) (o := 7) omg (by go_simp; with_reducible rfl)
  have fw2x0x7 := keepf hbw2 (b := w.heap.size) (o := 7) omg (by go_simp)
  have zw2x0 : w.heap.size < w2.heap.size := by omega
  have kw2x1x0 := keepc hbw2 (b := w.heap.size + 1) (o := 0) omg (by go_simp; with_reducible rfl)
  have fw2x1x0 := keepf hbw2 (b := w.heap.size + 1) (o := 0) omg (by go_simp)
  have kw2x1x1 := keepc hbw2 (b := w.heap.size + 1) (o := 1) omg (by go_simp; with_reducible rfl)
  have fw2x1x1 := keepf hbw2 (b := w.heap.size + 1) (o := 1) omg (by go_simp)
  have kw2x1x2 := keepc hbw2 (b := w.heap.size + 1) (o := 2) omg (by go_simp; with_reducible rfl)
  have fw2x1x2 := keepf hbw2 (b := w.heap.size + 1) (o := 2) omg (by go_simp)
  have kw2x1x3 := keepc hbw2 (b := w.heap.size + 1) (o := 3) omg (by go_simp; with_reducible rfl)
  have fw2x1x3 := keepf hbw2 (b := w.heap.size + 1) (o := 3) omg (by go_simp)
  have kw2x1x4 := keepc hbw2 (b := w.heap.size + 1) (o := 4) omg (by go_simp; with_reducible rfl)
  have fw2x1x4 := keepf hbw2 (b := w.heap.size + 1) (o := 4) omg (by go_simp)
  have kw2x1x5 := keepc hbw2 (b := w.heap.size + 1) (o := 5) omg (by go_simp; with_reducible rfl)
  have fw2x1x5 := keepf hbw2 (b := w.heap.size + 1) (o := 5) omg (by go_simp)
  have kw2x1x6 := keepc hbw2 (b := w.heap.size + 1) (o := 6) omg (by go_simp; with_reducible rfl)
  have fw2x1x6 := keepf hbw2 (b := w.heap.size + 1) (o := 6) omg (by go_simp)
  have kw2x1x7 := keepc hbw2 (b := w.heap.size + 1) (o := 7) omg (by go_simp; with_reducible rfl)
  have fw2x1x7 := keepf hbw2 (b := w.heap.size + 1) (o := 7) omg (by go_simp)
  have zw2x1 : w.heap.size + 1 < w2.heap.size := by omega
  have H_hbw2 := Lib.hid hbw2; clear hbw2
  rw [H_hw1.out] at H_hbw2
  have hsz2 := H_hbw2.out.size
  rw [H_s1.out] at hsz2
  have hne1 : w.heap.size ≠ w2.heap.size := by omega
  have hne2 : w2.heap.size ≠ w.heap.size := by omega
  have hne3 : w.heap.size + 1 ≠ w2.heap.size := by omega
  have hne4 : w2.heap.size ≠ w.heap.size + 1 := by omega
  have H_ho := Lib.hid ho; clear ho
  go_wp2_with fail
  refine (H_q2.out _).mono ?_
  rintro e w_ ⟨rfl, rfl⟩
  go_wp2_with fail
  have gq : Below w.heap.size w (w2.alloc (.cells #[.int .i64 0, .int .i64 c, .slice X k cx, .int .u64 U0] 45)) := gw2.alloc gw2.size _
  have q3 := H_q3.out _ (H_hx.out.below gq) (H_hy.out.below gq) (H_ht.out.below gq)
  have ⟨H_gq, H_q3⟩ := hid2 gq q3; clear gq q3
  refine (H_q3.out).mono ?_; rintro e w3 ⟨rfl, hbw3⟩
  have hsw3 := hbw3.size; (try simp only [World.size_alloc, World.heap_drewN, World.size_setCell, heap_drew] at hsw3)
  have gw3 : Below w.heap.size w w3 := belt
  have kw3x0x0 := keepc hbw3 (b := w.heap.size) (o := 0) omg (by go_simp; with_reducible rfl)
  have fw3x0x0 := keepf hbw3 (b := w.heap.size) (o := 0) omg (by go_simp)
  have kw3x0x1 := keepc hbw3 (b := w.heap.size) (o := 1) omg (by go_simp; with_reducible rfl)
  have fw3x0x1 := keepf hbw3 (b := w.heap.size) (o := 1) omg (by go_simp)
  have kw3x0x2 := keepc hbw3 (b := w.heap.size) (o := 2) omg (by go_simp; with_reducible rfl)
  have fw3x0x2 := keepf hbw3 (b := w.heap.size) (o := 2) omg (by go_simp)
  have kw3x0x3 := keepc hbw3 (b := w.heap.size) (o := 3) omg (by go_simp; with_reducible rfl)
  have fw3x0x3 := keepf hbw3 (b := w.heap.size) (o := 3) omg (by go_simp)
  have kw3x0x4 := keepc hbw3 (b := w.heap.size) (o := 4) omg (by go_simp; with_reducible rfl)
  have fw3x0x4 := keepf hbw3 (b := w.heap.size) (o := 4) omg (by go_simp)
  have kw3x0x5 := keepc hbw3 (b := w.heap.size) (o := 5) omg (by go_simp; with_reducible rfl)
  have fw3x0x5 := keepf hbw3 (b := w.heap.size) (o := 5) omg (by go_simp)
  have kw3x0x6 := keepc hbw3 (b := w.heap.size) (o := 6) omg (by go_simp; with_reducible rfl)
  have fw3x0x6 := keepf hbw3 (b := w.heap.size) (o := 6) omg (by go_simp)
  have kw3x0x7 := keepc hbw3 (b := w.heap.size) (o := 7) omg (by go_simp; with_reducible rfl)
  have fw3x0x7 := keepf hbw3 (b := w.heap.size) (o := 7) omg (by go_simp)
  have zw3x0 : w.heap.size < w3.heap.size := by omega
  have kw3x1x0 := keepc hbw3 (b := w.heap.size + 1) (o := 0) omg (by go_simp; with_reducible rfl)
  have fw3x1x0 := keepf hbw3 (b := w.heap.size + 1) (o := 0) omg (by go_simp)
  have kw3x1x1 := keepc hbw3 (b := w.heap.size + 1) (o := 1) omg (by go_simp; with_reducible rfl)
  have fw3x1x1 := keepf hbw3 (b := w.heap.size + 1) (o := 1) omg (by go_simp)
  have kw3x1x2 := keepc hbw3 (b := w.heap.size + 1) (o := 2) omg (by go_simp; with_reducible rfl)
  have fw3x1x2 := keepf hbw3 (b := w.heap.size + 1) (o := 2) omg (by go_simp)
  have kw3x1x3 := keepc hbw3 (b := w.heap.size + 1) (o := 3) omg (by go_simp; with_reducible rfl)
  have fw3x1x3 := keepf hbw3 (b := w.heap.size + 1) (o := 3) omg (by go_simp)
  have kw3x1x4 := keepc hbw3 (b := w.heap.size + 1) (o := 4) omg (by go_simp; with_reducible rfl)
  have fw3x1x4 := keepf hbw3 (b := w.heap.size + 1) (o := 4) omg (by go_simp)
  have kw3x1x5 := keepc hbw3 (b := w.heap.size + 1) (o := 5) omg (by go_simp; with_reducible rfl)
  have fw3x1x5 := keepf hbw3 (b := w.heap.size + 1) (o := 5) omg (by go_simp)
  have kw3x1x6 := keepc hbw3 (b := w.heap.size + 1) (o := 6) omg (by go_simp; with_reducible rfl)
  have fw3x1x6 := keepf hbw3 (b := w.heap.size + 1) (o := 6) omg (by go_simp)
  have kw3x1x7 := keepc hbw3 (b := w.heap.size + 1) (o := 7) omg (by go_simp; with_reducible rfl)
  have fw3x1x7 := keepf hbw3 (b := w.heap.size + 1) (o := 7) omg (by go_simp)
  have zw3x1 : w.heap.size + 1 < w3.heap.size := by omega
  have kw3x2x0 := keepc hbw3 (b := w2.heap.size) (o := 0) omg (by go_simp; with_reducible rfl)
  have fw3x2x0 := keepf hbw3 (b := w2.heap.size) (o := 0) omg (by go_simp)
  have kw3x2x1 := keepc hbw3 (b := w2.heap.size) (o := 1) omg (by go_simp; with_reducible rfl)
  have fw3x2x1 := keepf hbw3 (b := w2.heap.size) (o := 1) omg (by go_simp)
  have kw3x2x2 := keepc hbw3 (b := w2.heap.size) (o := 2) omg (by go_simp; with_reducible rfl)
  have fw3x2x2 := keepf hbw3 (b := w2.heap.size) (o := 2) omg (by go_simp)
  have kw3x2x3 := keepc hbw3 (b := w2.heap.size) (o := 3) omg (by go_simp; with_reducible rfl)
  have fw3x2x3 := keepf hbw3 (b := w2.heap.size) (o := 3) omg (by go_simp)
  have zw3x2 : w2.heap.size < w3.heap.size := by omega
  have H_hbw3 := Lib.hid hbw3; clear hbw3
  clear gw2
  clear kw2x0x0
  clear fw2x0x0
  clear kw2x0x1
  clear fw2x0x1
  clear kw2x0x2
  clear fw2x0x2
  clear kw2x0x3
  clear fw2x0x3
  clear kw2x0x4
  clear fw2x0x4
  clear kw2x0x5
  clear fw2x0x5
  clear kw2x0x6
  clear fw2x0x6
  clear kw2x0x7
  clear fw2x0x7
  clear kw2x1x0
  clear fw2x1x0
  clear kw2x1x1
  clear fw2x1x1
  clear kw2x1x2
  clear fw2x1x2
  clear kw2x1x3
  clear fw2x1x3
  clear kw2x1x4
  clear fw2x1x4
  clear kw2x1x5
  clear fw2x1x5
  clear kw2x1x6
  clear fw2x1x6
  clear kw2x1x7
  clear fw2x1x7
  clear H_hbw2 H_hbw3
  go_wp2_with fail
  refine wp_region_held_drew (S := (fun W => W.cell? ⟨w.heap.size, 4, none⟩ = some (.int .i64 y.s))) (by kernel_rfl) ?_ (fun hHeld => ?_)
  · (try dsimp only); go_keep
  refine take_at (i := 0) (some 35) rfl rfl (by kernel_rfl) (fun _ _ _ h => h) (by rfl) (v := ?_) ?_ (by assumption) ?_
  rotate_left
  · intro W hSw; (try dsimp only at hSw); go_simp; (try with_reducible rfl)
  (try simp only [apz])
  refine take_at (i := 1) (some 36) rfl rfl (by kernel_rfl) (fun _ _ _ h => h) (by rfl) (v := ?_) ?_ (by assumption) ?_
  rotate_left
  · intro W hSw; (try dsimp only at hSw); go_simp; (try with_reducible rfl)
  (try simp only [apz])
  refine take_at (i := 2) (some 37) rfl rfl (by kernel_rfl) (fun _ _ _ h => h) (by rfl) (v := ?_) ?_ (by assumption) ?_
  rotate_left
  · intro W hSw; (try dsimp only at hSw); go_simp; (try with_reducible rfl)
  (try simp only [apz])
  refine take_at (i := 3) (some 38) rfl rfl (by kernel_rfl) (fun _ _ _ h => h) (by rfl) (v := ?_) ?_ (by assumption) ?_
  rotate_left
  · intro W hSw; (try dsimp only at hSw); go_simp; (try with_reducible rfl)
  (try simp only [apz])
  refine take_at (i := 4) (some 39) rfl rfl (by kernel_rfl) (fun _ _ _ h => h) (by rfl) (v := ?_) ?_ (by assumption) ?_
  rotate_left
  · intro W hSw; (try dsimp only at hSw); go_simp; (try with_reducible rfl)
  (try simp only [apz])
  refine take_at (i := 5) (some 40) rfl rfl (by kernel_rfl) (fun _ _ _ h => h) (by rfl) (v := ?_) ?_ (by assumption) ?_
  rotate_left
  · intro W hSw; (try dsimp only at hSw); go_simp; (try with_reducible rfl)
  (try simp only [apz])
  refine take_at (i := 6) (some 12) rfl rfl (by kernel_rfl) (fun _ _ _ h => h) (by rfl) (v := ?_) ?_ (by assumption) ?_
  rotate_left
  · intro W hSw; (try dsimp only at hSw); go_simp; (try with_reducible rfl)
  (try simp only [apz])
  refine take_at (i := 7) (some 41) rfl rfl (by kernel_rfl) (fun _ _ _ h => h) (by rfl) (v := ?_) ?_ (by assumption) ?_
  rotate_left
  · intro W hSw; (try dsimp only at hSw); go_simp; (try with_reducible rfl)
  (try simp only [apz])
  refine wpAnyH_ready (rs := [8]) (by kernel_rfl) (by simp) ?_
  refine AllReadyH.cons rfl (fun K hK => ?_) AllReadyH.nil
  go_simp
  refine hK.out _ _ ?_ (fun hHeld => ?_)
  · (try dsimp only); go_keep
  clear hK K
  (try simp only [apz])
  refine wpAnyH_done (by kernel_rfl) ?_ _
  go_wp2_with fail
  refine bodyPost_ret (v := .tuple #[.agg #[.int .i64 0, .int .i64 0, .slice none 0 0, .int .u64 0, .int .i64 0, .int .i64 0, .slice none 0 0, .int .u64 0], .int .i64 3]) (by simp [results, Tryz.results106, go_sem, *]) rfl (slotsErr_zero belt)
/-- the plain answers of a write -/
theorem cntB_iff {n : Int} : cntB n = true ↔ 0 ≤ n ∧ n ≤ 1000000000 := wB_iff
theorem ok_s {x : Slt} (h : x.ok = true) : 0 ≤ x.s ∧ x.s ≤ 1000000000 := by
  simp only [Slt.ok, vldB, fldB, Bool.and_eq_true] at h
  exact cntB_iff.1 h.1.1.1.1
theorem bestI_01 (x y : Slt) : bestI x y = 0 ∨ bestI x y = 1 := by
  unfold bestI; split <;> simp
theorem best_ok0 {x y : Slt} (h : bestB x y = true) (hi : bestI x y = 0) : x.ok = true := by
  cases hx : x.ok
  · cases hy : y.ok
    · simp [bestB, hx, hy] at h
    · simp [bestI, hx, hy] at hi
  · rfl
theorem best_ok1 {x y : Slt} (hi : bestI x y = 1) : y.ok = true := by
  cases hy : y.ok
  · simp [bestI, hy] at hi
  · rfl
end Go.Proofs.YtclgncaghiinhaaGreatDoor

/- Contracts of package slot: Write, whatever it is called with. -/
import Derived.Test.YtclgncaghiinhaaGreatDoorU8
set_option linter.unusedSimpArgs false
set_option linter.unusedVariables false
set_option maxRecDepth 100000
namespace Go.Proofs.YtclgncaghiinhaaGreatDoor
open Go.RowKit
set_option maxHeartbeats 4000000 in
theorem write_arg (x y : Slt) (c at_ : Int) (A : Option Addr) (n p : Nat) (B : Option Addr) (m q : Nat) (D : Option Addr) (k r : Nat) (l : List Int) (hlk : l.length = k) (w : World) (hx : SlotIs w A n x) (hy : SlotIs w B m y) (hc : -9223372036854775808 ≤ c ∧ c ≤ 9223372036854775807) (hl : IntsAt w D .i64 l) (hk : k ≤ 500) (hf : Fit l) (ht : Tab w)
  (hF : fldB 0 c l = true) (hat : wB at_ 0 3 = false) :
  Calls Tryz.prog 106 #[.agg #[.int .i64 x.s, .int .i64 x.c, .slice A n p, .int .u64 x.u, .int .i64 y.s, .int .i64 y.c, .slice B m q, .int .u64 y.u], .int .i64 c, .slice D k r, .int .i64 at_] w (SlotsErr Slt.zero Slt.zero 1 w) := by
 obtain ⟨w1, hw1⟩ : ∃ w1, (w.alloc (.cells #[.int .i64 x.s, .int .i64 x.c, .slice A n p, .int .u64 x.u, .int .i64 y.s, .int .i64 y.c, .slice B m q, .int .u64 y.u] 46)).alloc (.cells #[.int .i64 0, .int .i64 0, .slice none 0 0, .int .u64 0, .int .i64 0, .int .i64 0, .slice none 0 0, .int .u64 0] 46) = w1 := ⟨_, rfl⟩
 have b1 : Below w.heap.size w w1 := by rw [← hw1]; exact ((Below.refl _ _).alloc (Nat.le_refl _) _).alloc (by simp) _
 have s1 : w1.heap.size = w.heap.size + 2 := by rw [← hw1]; simp
 have q1 := make_ok 0 c D r k l hlk w1 (by omega) hc (hl.below b1) hk hf (ht.below b1) hF
 have q2 := fun W => swithin_any at_ 0 3 W
 rw [hat] at q2
 have q3 := fun W (h : SlotIs W A n x) (h2 : SlotIs W B m y) h3 => best_any x y A n p B m q W h h2 h3
 unfold SlotErr at q1
 dsimp only [Slt.made] at q1
 generalize sumS 0 c l = U0 at *
 rw [hlk] at q1
 rw [← hw1] at q1
 have ⟨Hhx, Hhy, Hhc, Hhl, Hhf, Hht, HhF, Hb1⟩ := hid8 hx hy hc hl hf ht hF b1; clear hx hy hc hl hf ht hF b1; have ⟨Hs1, Hhw1, Hq1, Hq2, Hq3, Hhat, Hhlk⟩ := hid7 s1 hw1 q1 q2 q3 hat hlk; clear s1 hw1 q1 q2 q3 hat hlk
 go_enter Tryz.func106, Tryz.ntmps106
 go_wp2_with fail
 refine (Hq1.out).mono ?_; rintro e w2 ⟨X, cx, rfl, ho, hbw2⟩
 have hsw2 := hbw2.size; (try simp only [World.size_alloc, World.heap_drewN, World.size_setCell, heap_drew] at hsw2)
 have gw2 : Below w.heap.size w w2 := belt
 obtain ⟨kw2x0x0, fw2x0x0, kw2x0x1, fw2x0x1, kw2x0x2, fw2x0x2, kw2x0x3, fw2x0x3, kw2x0x4, fw2x0x4, kw2x0x5, fw2x0x5, kw2x0x6, fw2x0x6, kw2x0x7, fw2x0x7⟩ := kf8 hbw2 w.heap.size
 have zw2x0 : w.heap.size < w2.heap.size := by omega
 obtain ⟨kw2x1x0, fw2x1x0, kw2x1x1, fw2x1x1, kw2x1x2, fw2x1x2, kw2x1x3, fw2x1x3, kw2x1x4, fw2x1x4, kw2x1x5, fw2x1x5, kw2x1x6, fw2x1x6, kw2x1x7, fw2x1x7⟩ := kf8 hbw2 (w.heap.size + 1)
 have zw2x1 : w.heap.size + 1 < w2.heap.size := by omega
 have Hhbw2 := Lib.hid hbw2; clear hbw2
 rw [Hhw1.out] at Hhbw2
 have hsz2 := Hhbw2.out.size
 rw [Hs1.out] at hsz2
 have hne1 : w.heap.size ≠ w2.heap.size := by omega
 have hne2 : w2.heap.size ≠ w.heap.size := by omega
 have hne3 : w.heap.size + 1 ≠ w2.heap.size := by omega
 have hne4 : w2.heap.size ≠ w.heap.size + 1 := by omega
 have Hho := Lib.hid ho; clear ho
 go_wp2_with fail
 refine (Hq2.out _).mono ?_
 rintro e w_ ⟨rfl, rfl⟩
 go_wp2_with fail
 refine bodyPost_ret (v := .tuple #[.agg #[.int .i64 0, .int .i64 0, .slice none 0 0, .int .u64 0, .int .i64 0, .int .i64 0, .slice none 0 0, .int .u64 0], .int .i64 1]) (by simp [results, Tryz.results106, go_sem, *]) rfl (slotsErr_zero belt)
set_option maxHeartbeats 4000000 in
theorem write_r0 (x y : Slt) (c at_ : Int) (A : Option Addr) (n p : Nat) (B : Option Addr) (m q : Nat) (D : Option Addr) (k r : Nat) (l : List Int) (hlk : l.length = k) (w : World) (hx : SlotIs w A n x) (hy : SlotIs w B m y) (hc : -9223372036854775808 ≤ c ∧ c ≤ 9223372036854775807) (hl : IntsAt w D .i64 l) (hk : k ≤ 500) (hf : Fit l) (ht : Tab w)
  (hF : fldB 0 c l = true) (hat : wB at_ 0 3 = true) (hE : bestB x y = true) (hI : bestI x y = 0) (hS : x.s = 1000000000) :
  Calls Tryz.prog 106 #[.agg #[.int .i64 x.s, .int .i64 x.c, .slice A n p, .int .u64 x.u, .int .i64 y.s, .int .i64 y.c, .slice B m q, .int .u64 y.u], .int .i64 c, .slice D k r, .int .i64 at_] w (SlotsErr Slt.zero Slt.zero 3 w) := by
 obtain ⟨w1, hw1⟩ : ∃ w1, (w.alloc (.cells #[.int .i64 x.s, .int .i64 x.c, .slice A n p, .int .u64 x.u, .int .i64 y.s, .int .i64 y.c, .slice B m q, .int .u64 y.u] 46)).alloc (.cells #[.int .i64 0, .int .i64 0, .slice none 0 0, .int .u64 0, .int .i64 0, .int .i64 0, .slice none 0 0, .int .u64 0] 46) = w1 := ⟨_, rfl⟩
 have b1 : Below w.heap.size w w1 := by rw [← hw1]; exact ((Below.refl _ _).alloc (Nat.le_refl _) _).alloc (by simp) _
 have s1 : w1.heap.size = w.heap.size + 2 := by rw [← hw1]; simp
 have q1 := make_ok 0 c D r k l hlk w1 (by omega) hc (hl.below b1) hk hf (ht.below b1) hF
 have q2 := fun W => swithin_any at_ 0 3 W
 rw [hat] at q2
 have q3 := fun W (h : SlotIs W A n x) (h2 : SlotIs W B m y) h3 => best_any x y A n p B m q W h h2 h3
 rw [hE, hI] at q3
 have hS1 : (x.s == 1000000000) = true := by rw [hS]; rfl
 unfold SlotErr at q1
 dsimp only [Slt.made] at q1
 generalize sumS 0 c l = U0 at *
 rw [hlk] at q1
 rw [← hw1] at q1
 have ⟨Hhx, Hhy, Hhc, Hhl, Hhf, Hht, HhF, HhE⟩ := hid8 hx hy hc hl hf ht hF hE; clear hx hy hc hl hf ht hF hE; have ⟨HhI, HhS, Hb1, Hs1, Hhw1, Hq1, Hq2, Hq3⟩ := hid8 hI hS b1 s1 hw1 q1 q2 q3; clear hI hS b1 s1 hw1 q1 q2 q3; have ⟨Hhat, Hhlk⟩ := hid2 hat hlk; clear hat hlk
 go_enter Tryz.func106, Tryz.ntmps106
 go_wp2_with fail
 refine (Hq1.out).mono ?_; rintro e w2 ⟨X, cx, rfl, ho, hbw2⟩
 have hsw2 := hbw2.size; (try simp only [World.size_alloc, World.heap_drewN, World.size_setCell, heap_drew] at hsw2)
 have gw2 : Below w.heap.size w w2 := belt
 obtain ⟨kw2x0x0, fw2x0x0, kw2x0x1, fw2x0x1, kw2x0x2, fw2x0x2, kw2x0x3, fw2x0x3, kw2x0x4, fw2x0x4, kw2x0x5, fw2x0x5, kw2x0x6, fw2x0x6, kw2x0x7, fw2x0x7⟩ := kf8 hbw2 w.heap.size
 have zw2x0 : w.heap.size < w2.heap.size := by omega
 obtain ⟨kw2x1x0, fw2x1x0, kw2x1x1, fw2x1x1, kw2x1x2, fw2x1x2, kw2x1x3, fw2x1x3, kw2x1x4, fw2x1x4, kw2x1x5, fw2x1x5, kw2x1x6, fw2x1x6, kw2x1x7, fw2x1x7⟩ := kf8 hbw2 (w.heap.size + 1)
 have zw2x1 : w.heap.size + 1 < w2.heap.size := by omega
 have Hhbw2 := Lib.hid hbw2; clear hbw2
 rw [Hhw1.out] at Hhbw2
 have hsz2 := Hhbw2.out.size
 rw [Hs1.out] at hsz2
 have hne1 : w.heap.size ≠ w2.heap.size := by omega
 have hne2 : w2.heap.size ≠ w.heap.size := by omega
 have hne3 : w.heap.size + 1 ≠ w2.heap.size := by omega
 have hne4 : w2.heap.size ≠ w.heap.size + 1 := by omega
 have Hho := Lib.hid ho; clear ho
 go_wp2_with fail
 refine (Hq2.out _).mono ?_
 rintro e w_ ⟨rfl, rfl⟩
 go_wp2_with fail
 have gq : Below w.heap.size w (w2.alloc (.cells #[.int .i64 0, .int .i64 c, .slice X k cx, .int .u64 U0] 45)) := gw2.alloc gw2.size _
 have q3 := Hq3.out _ (Hhx.out.below gq) (Hhy.out.below gq) (Hht.out.below gq)
 have ⟨Hgq, Hq3⟩ := hid2 gq q3; clear gq q3
 refine (Hq3.out).mono ?_; rintro e w3 ⟨rfl, hbw3⟩
 have hsw3 := hbw3.size; (try simp only [World.size_alloc, World.heap_drewN, World.size_setCell, heap_drew] at hsw3)
 have gw3 : Below w.heap.size w w3 := belt
 obtain ⟨kw3x0x0, fw3x0x0, kw3x0x1, fw3x0x1, kw3x0x2, fw3x0x2, kw3x0x3, fw3x0x3, kw3x0x4, fw3x0x4, kw3x0x5, fw3x0x5, kw3x0x6, fw3x0x6, kw3x0x7, fw3x0x7⟩ := kf8 hbw3 w.heap.size
 have zw3x0 : w.heap.size < w3.heap.size := by omega
 obtain ⟨kw3x1x0, fw3x1x0, kw3x1x1, fw3x1x1, kw3x1x2, fw3x1x2, kw3x1x3, fw3x1x3, kw3x1x4, fw3x1x4, kw3x1x5, fw3x1x5, kw3x1x6, fw3x1x6, kw3x1x7, fw3x1x7⟩ := kf8 hbw3 (w.heap.size + 1)
 have zw3x1 : w.heap.size + 1 < w3.heap.size := by omega
 obtain ⟨kw3x2x0, fw3x2x0, kw3x2x1, fw3x2x1, kw3x2x2, fw3x2x2, kw3x2x3, fw3x2x3⟩ := kf4 hbw3 w2.heap.size
 have zw3x2 : w2.heap.size < w3.heap.size := by omega
 have Hhbw3 := Lib.hid hbw3; clear hbw3
 clear gw2 kw2x0x0 fw2x0x0 kw2x0x1 fw2x0x1 kw2x0x2 fw2x0x2 kw2x0x3 fw2x0x3 kw2x0x4 fw2x0x4 kw2x0x5 fw2x0x5 kw2x0x6 fw2x0x6 kw2x0x7 fw2x0x7 kw2x1x0 fw2x1x0 kw2x1x1 fw2x1x1 kw2x1x2 fw2x1x2 kw2x1x3 fw2x1x3 kw2x1x4 fw2x1x4 kw2x1x5 fw2x1x5 kw2x1x6 fw2x1x6 kw2x1x7 fw2x1x7 Hhbw2 Hhbw3
 go_wp2_with fail
 refine wp_region_held_drew (S := (fun W => W.cell? ⟨w.heap.size, 0, none⟩ = some (.int .i64 x.s))) (by kernel_rfl) ?_ (fun hHeld => ?_)
 ·(try dsimp only); go_keep
 refine tq 0 (some 35) ?_
 (try simp only [apz])
 refine tq 1 (some 36) ?_
 (try simp only [apz])
 refine tq 2 (some 37) ?_
 (try simp only [apz])
 refine tq 3 (some 38) ?_
 (try simp only [apz])
 refine tq 4 (some 39) ?_
 (try simp only [apz])
 refine tq 5 (some 40) ?_
 (try simp only [apz])
 refine tq 6 (some 12) ?_
 (try simp only [apz])
 refine tq 7 (some 41) ?_
 (try simp only [apz])
 refine wpAnyH_ready (rs := [8]) (by kernel_rfl) (by simp) ?_
 refine AllReadyH.cons rfl (fun K hK => ?_) AllReadyH.nil
 go_simp
 refine hK.out _ _ ?_ (fun hHeld => ?_)
 ·(try dsimp only); go_keep
 clear hK K
 (try simp only [apz])
 refine wpAnyH_done (by kernel_rfl) ?_ _
 go_wp2_with fail
 refine bodyPost_ret (v := .tuple #[.agg #[.int .i64 0, .int .i64 0, .slice none 0 0, .int .u64 0, .int .i64 0, .int .i64 0, .slice none 0 0, .int .u64 0], .int .i64 3]) (by simp [results, Tryz.results106, go_sem, *]) rfl (slotsErr_zero belt)
set_option maxHeartbeats 4000000 in
theorem write_r1 (x y : Slt) (c at_ : Int) (A : Option Addr) (n p : Nat) (B : Option Addr) (m q : Nat) (D : Option Addr) (k r : Nat) (l : List Int) (hlk : l.length = k) (w : World) (hx : SlotIs w A n x) (hy : SlotIs w B m y) (hc : -9223372036854775808 ≤ c ∧ c ≤ 9223372036854775807) (hl : IntsAt w D .i64 l) (hk : k ≤ 500) (hf : Fit l) (ht : Tab w)
  (hF : fldB 0 c l = true) (hat : wB at_ 0 3 = true) (hE : bestB x y = true) (hI : bestI x y = 1) (hS : y.s = 1000000000) :
  Calls Tryz.prog 106 #[.agg #[.int .i64 x.s, .int .i64 x.c, .slice A n p, .int .u64 x.u, .int .i64 y.s, .int .i64 y.c, .slice B m q, .int .u64 y.u], .int .i64 c, .slice D k r, .int .i64 at_] w (SlotsErr Slt.zero Slt.zero 3 w) := by
 obtain ⟨w1, hw1⟩ : ∃ w1, (w.alloc (.cells #[.int .i64 x.s, .int .i64 x.c, .slice A n p, .int .u64 x.u, .int .i64 y.s, .int .i64 y.c, .slice B m q, .int .u64 y.u] 46)).alloc (.cells #[.int .i64 0, .int .i64 0, .slice none 0 0, .int .u64 0, .int .i64 0, .int .i64 0, .slice none 0 0, .int .u64 0] 46) = w1 := ⟨_, rfl⟩
 have b1 : Below w.heap.size w w1 := by rw [← hw1]; exact ((Below.refl _ _).alloc (Nat.le_refl _) _).alloc (by simp) _
 have s1 : w1.heap.size = w.heap.size + 2 := by rw [← hw1]; simp
 have q1 := make_ok 0 c D r k l hlk w1 (by omega) hc (hl.below b1) hk hf (ht.below b1) hF
 have q2 := fun W => swithin_any at_ 0 3 W
 rw [hat] at q2
 have q3 := fun W (h : SlotIs W A n x) (h2 : SlotIs W B m y) h3 => best_any x y A n p B m q W h h2 h3
 rw [hE, hI] at q3
 have hS1 : (y.s == 1000000000) = true := by rw [hS]; rfl
 unfold SlotErr at q1
 dsimp only [Slt.made] at q1
 generalize sumS 0 c l = U0 at *
 rw [hlk] at q1
 rw [← hw1] at q1
 have ⟨Hhx, Hhy, Hhc, Hhl, Hhf, Hht, HhF, HhE⟩ := hid8 hx hy hc hl hf ht hF hE; clear hx hy hc hl hf ht hF hE; have ⟨HhI, HhS, Hb1, Hs1, Hhw1, Hq1, Hq2, Hq3⟩ := hid8 hI hS b1 s1 hw1 q1 q2 q3; clear hI hS b1 s1 hw1 q1 q2 q3; have ⟨Hhat, Hhlk⟩ := hid2 hat hlk; clear hat hlk
 go_enter Tryz.func106, Tryz.ntmps106
 go_wp2_with fail
 refine (Hq1.out).mono ?_; rintro e w2 ⟨X, cx, rfl, ho, hbw2⟩
 have hsw2 := hbw2.size; (try simp only [World.size_alloc, World.heap_drewN, World.size_setCell, heap_drew] at hsw2)
 have gw2 : Below w.heap.size w w2 := belt
 obtain ⟨kw2x0x0, fw2x0x0, kw2x0x1, fw2x0x1, kw2x0x2, fw2x0x2, kw2x0x3, fw2x0x3, kw2x0x4, fw2x0x4, kw2x0x5, fw2x0x5, kw2x0x6, fw2x0x6, kw2x0x7, fw2x0x7⟩ := kf8 hbw2 w.heap.size
 have zw2x0 : w.heap.size < w2.heap.size := by omega
 obtain ⟨kw2x1x0, fw2x1x0, kw2x1x1, fw2x1x1, kw2x1x2, fw2x1x2, kw2x1x3, fw2x1x3, kw2x1x4, fw2x1x4, kw2x1x5, fw2x1x5, kw2x1x6, fw2x1x6, kw2x1x7, fw2x1x7⟩ := kf8 hbw2 (w.heap.size + 1)
 have zw2x1 : w.heap.size + 1 < w2.heap.size := by omega
 have Hhbw2 := Lib.hid hbw2; clear hbw2
 rw [Hhw1.out] at Hhbw2
 have hsz2 := Hhbw2.out.size
 rw [Hs1.out] at hsz2
 have hne1 : w.heap.size ≠ w2.heap.size := by omega
 have hne2 : w2.heap.size ≠ w.heap.size := by omega
 have hne3 : w.heap.size + 1 ≠ w2.heap.size := by omega
 have hne4 : w2.heap.size ≠ w.heap.size + 1 := by omega
 have Hho := Lib.hid ho; clear ho
 go_wp2_with fail
 refine (Hq2.out _).mono ?_
 rintro e w_ ⟨rfl, rfl⟩
 go_wp2_with fail
 have gq : Below w.heap.size w (w2.alloc (.cells #[.int .i64 0, .int .i64 c, .slice X k cx, .int .u64 U0] 45)) := gw2.alloc gw2.size _
 have q3 := Hq3.out _ (Hhx.out.below gq) (Hhy.out.below gq) (Hht.out.below gq)
 have ⟨Hgq, Hq3⟩ := hid2 gq q3; clear gq q3
 refine (Hq3.out).mono ?_; rintro e w3 ⟨rfl, hbw3⟩
 have hsw3 := hbw3.size; (try simp only [World.size_alloc, World.heap_drewN, World.size_setCell, heap_drew] at hsw3)
 have gw3 : Below w.heap.size w w3 := belt
 obtain ⟨kw3x0x0, fw3x0x0, kw3x0x1, fw3x0x1, kw3x0x2, fw3x0x2, kw3x0x3, fw3x0x3, kw3x0x4, fw3x0x4, kw3x0x5, fw3x0x5, kw3x0x6, fw3x0x6, kw3x0x7, fw3x0x7⟩ := kf8 hbw3 w.heap.size
 have zw3x0 : w.heap.size < w3.heap.size := by omega
 obtain ⟨kw3x1x0, fw3x1x0, kw3x1x1, fw3x1x1, kw3x1x2, fw3x1x2, kw3x1x3, fw3x1x3, kw3x1x4, fw3x1x4, kw3x1x5, fw3x1x5, kw3x1x6, fw3x1x6, kw3x1x7, fw3x1x7⟩ := kf8 hbw3 (w.heap.size + 1)
 have zw3x1 : w.heap.size + 1 < w3.heap.size := by omega
 obtain ⟨kw3x2x0, fw3x2x0, kw3x2x1, fw3x2x1, kw3x2x2, fw3x2x2, kw3x2x3, fw3x2x3⟩ := kf4 hbw3 w2.heap.size
 have zw3x2 : w2.heap.size < w3.heap.size := by omega
 have Hhbw3 := Lib.hid hbw3; clear hbw3
 clear gw2 kw2x0x0 fw2x0x0 kw2x0x1 fw2x0x1 kw2x0x2 fw2x0x2 kw2x0x3 fw2x0x3 kw2x0x4 fw2x0x4 kw2x0x5 fw2x0x5 kw2x0x6 fw2x0x6 kw2x0x7 fw2x0x7 kw2x1x0 fw2x1x0 kw2x1x1 fw2x1x1 kw2x1x2 fw2x1x2 kw2x1x3 fw2x1x3 kw2x1x4 fw2x1x4 kw2x1x5 fw2x1x5 kw2x1x6 fw2x1x6 kw2x1x7 fw2x1x7 Hhbw2 Hhbw3
 go_wp2_with fail
 refine wp_region_held_drew (S := (fun W => W.cell? ⟨w.heap.size, 4, none⟩ = some (.int .i64 y.s))) (by kernel_rfl) ?_ (fun hHeld => ?_)
 ·(try dsimp only); go_keep
 refine tq 0 (some 35) ?_
 (try simp only [apz])
 refine tq 1 (some 36) ?_
 (try simp only [apz])
 refine tq 2 (some 37) ?_
 (try simp only [apz])
 refine tq 3 (some 38) ?_
 (try simp only [apz])
 refine tq 4 (some 39) ?_
 (try simp only [apz])
 refine tq 5 (some 40) ?_
 (try simp only [apz])
 refine tq 6 (some 12) ?_
 (try simp only [apz])
 refine tq 7 (some 41) ?_
 (try simp only [apz])
 refine wpAnyH_ready (rs := [8]) (by kernel_rfl) (by simp) ?_
 refine AllReadyH.cons rfl (fun K hK => ?_) AllReadyH.nil
 go_simp
 refine hK.out _ _ ?_ (fun hHeld => ?_)
 ·(try dsimp only); go_keep
 clear hK K
 (try simp only [apz])
 refine wpAnyH_done (by kernel_rfl) ?_ _
 go_wp2_with fail
 refine bodyPost_ret (v := .tuple #[.agg #[.int .i64 0, .int .i64 0, .slice none 0 0, .int .u64 0, .int .i64 0, .int .i64 0, .slice none 0 0, .int .u64 0], .int .i64 3]) (by simp [results, Tryz.results106, go_sem, *]) rfl (slotsErr_zero belt)
/-- the plain answers of a write -/
theorem cntB_iff {n : Int} : cntB n = true ↔ 0 ≤ n ∧ n ≤ 1000000000 := wB_iff
theorem ok_s {x : Slt} (h : x.ok = true) : 0 ≤ x.s ∧ x.s ≤ 1000000000 := by
 simp only [Slt.ok, vldB, fldB, Bool.and_eq_true] at h
 exact cntB_iff.1 h.1.1.1.1
theorem bestI_01 (x y : Slt) : bestI x y = 0 ∨ bestI x y = 1 := by
 unfold bestI; split <;> simp
theorem best_ok0 {x y : Slt} (h : bestB x y = true) (hi : bestI x y = 0) : x.ok = true := by
 cases hx : x.ok
 ·cases hy : y.ok
  ·simp [bestB, hx, hy] at h
  ·simp [bestI, hx, hy] at hi
 ·rfl
theorem best_ok1 {x y : Slt} (hi : bestI x y = 1) : y.ok = true := by
 cases hy : y.ok
 ·simp [bestI, hy] at hi
 ·rfl
end Go.Proofs.YtclgncaghiinhaaGreatDoor

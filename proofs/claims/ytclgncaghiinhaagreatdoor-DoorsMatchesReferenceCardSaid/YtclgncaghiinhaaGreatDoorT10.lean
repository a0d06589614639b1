/- Contracts of the reference of slot: Write, one case of which slot is the best. -/
import Derived.Test.YtclgncaghiinhaaGreatDoorT7
import Derived.Test.YtclgncaghiinhaaGreatDoorT9
set_option linter.unusedSimpArgs false
set_option linter.unusedVariables false
set_option maxRecDepth 100000
namespace Go.Proofs.YtclgncaghiinhaaGreatDoor
open Go.RowKit
theorem rvalid_at {x : Slt} {A : Option Addr} {n : Nat} (cap : Nat) {w : World} (h : SlotIs w A n x) :
  Calls Tryz.prog 107 #[.agg #[.int .i64 x.s, .int .i64 x.c, .slice A n cap, .int .u64 x.u]] w fun e w' => e = .returned (.bool x.ok) ∧ Below w.heap.size w w' :=
 rvalid_any x.s x.c x.u A cap n x.l h.len w h.s h.c h.ints h.few h.fit
set_option maxHeartbeats 2000000 in
theorem rbest_any (x y : Slt) (A : Option Addr) (n p : Nat) (B : Option Addr) (m q : Nat) (w : World) (hx : SlotIs w A n x) (hy : SlotIs w B m y) :
  Calls Tryz.prog 88 #[.agg #[.int .i64 x.s, .int .i64 x.c, .slice A n p, .int .u64 x.u, .int .i64 y.s, .int .i64 y.c, .slice B m q, .int .u64 y.u]] w fun e w' => e = .returned (.tuple #[.int .i64 (bestI x y), .bool (bestB x y)]) ∧ Below w.heap.size w w' := by
 have b1 : Below w.heap.size w (w.alloc (.cells #[.int .i64 x.s, .int .i64 x.c, .slice A n p, .int .u64 x.u, .int .i64 y.s, .int .i64 y.c, .slice B m q, .int .u64 y.u] 46)) := (Below.refl _ _).alloc (Nat.le_refl _) _
 have q1 := rvalid_at p (hx.below b1)
 have q2 := fun W (h : SlotIs W B m y) => rvalid_at q h
 cases h0 : x.ok with
 | false =>
  cases h1 : y.ok with
  | false =>
   rw [h0] at q1
   rw [h1] at q2
   have fin := bestI_of h0 h1 rfl
   generalize bestI x y = I at *
   generalize bestB x y = E at *
   have hI : I = 0 := by simpa using fin.1
   have hE : E = false := by simpa using fin.2
   subst hI hE
   clear fin
   have ⟨Hhx, Hhy, Hb1, Hq1, Hq2, Hh0, Hh1⟩ := hid7 hx hy b1 q1 q2 h0 h1; clear hx hy b1 q1 q2 h0 h1
   go_enter Tryz.func88, Tryz.ntmps88
   go_wp2_with fail
   refine (Hq1.out).mono ?_; rintro e w2 ⟨rfl, hbw2⟩
   have hsw2 := hbw2.size; (try simp only [World.size_alloc, World.heap_drewN, World.size_setCell, heap_drew] at hsw2)
   have gw2 : Below w.heap.size w w2 := belt
   obtain ⟨kw2x0x0, kw2x0x1, kw2x0x2, kw2x0x3, kw2x0x4, kw2x0x5, kw2x0x6, kw2x0x7⟩ := kc8 hbw2 w.heap.size
   have zw2x0 : w.heap.size < w2.heap.size := by omega
   have Hhbw2 := Lib.hid hbw2; clear hbw2
   have q2 := Hq2.out w2 (Hhy.out.below gw2)
   have Hq2 := Lib.hid q2; clear q2
   go_wp2_with fail
   refine (Hq2.out).mono ?_; rintro e w3 ⟨rfl, hbw3⟩
   have hsw3 := hbw3.size; (try simp only [World.size_alloc, World.heap_drewN, World.size_setCell, heap_drew] at hsw3)
   have gw3 : Below w.heap.size w w3 := belt
   obtain ⟨kw3x0x0, kw3x0x1, kw3x0x2, kw3x0x3, kw3x0x4, kw3x0x5, kw3x0x6, kw3x0x7⟩ := kc8 hbw3 w.heap.size
   have zw3x0 : w.heap.size < w3.heap.size := by omega
   have Hhbw3 := Lib.hid hbw3; clear hbw3
   clear gw2 kw2x0x0 kw2x0x1 kw2x0x2 kw2x0x3 kw2x0x4 kw2x0x5 kw2x0x6 kw2x0x7
   go_wp2_with fail
   go_ret2
   exact ⟨rfl, gw3⟩
  | true =>
   rw [h0] at q1
   rw [h1] at q2
   have fin := bestI_of h0 h1 rfl
   generalize bestI x y = I at *
   generalize bestB x y = E at *
   have hI : I = 1 := by simpa using fin.1
   have hE : E = true := by simpa using fin.2
   subst hI hE
   clear fin
   have ⟨Hhx, Hhy, Hb1, Hq1, Hq2, Hh0, Hh1⟩ := hid7 hx hy b1 q1 q2 h0 h1; clear hx hy b1 q1 q2 h0 h1
   go_enter Tryz.func88, Tryz.ntmps88
   go_wp2_with fail
   refine (Hq1.out).mono ?_; rintro e w2 ⟨rfl, hbw2⟩
   have hsw2 := hbw2.size; (try simp only [World.size_alloc, World.heap_drewN, World.size_setCell, heap_drew] at hsw2)
   have gw2 : Below w.heap.size w w2 := belt
   obtain ⟨kw2x0x0, kw2x0x1, kw2x0x2, kw2x0x3, kw2x0x4, kw2x0x5, kw2x0x6, kw2x0x7⟩ := kc8 hbw2 w.heap.size
   have zw2x0 : w.heap.size < w2.heap.size := by omega
   have Hhbw2 := Lib.hid hbw2; clear hbw2
   have q2 := Hq2.out w2 (Hhy.out.below gw2)
   have Hq2 := Lib.hid q2; clear q2
   go_wp2_with fail
   refine (Hq2.out).mono ?_; rintro e w3 ⟨rfl, hbw3⟩
   have hsw3 := hbw3.size; (try simp only [World.size_alloc, World.heap_drewN, World.size_setCell, heap_drew] at hsw3)
   have gw3 : Below w.heap.size w w3 := belt
   obtain ⟨kw3x0x0, kw3x0x1, kw3x0x2, kw3x0x3, kw3x0x4, kw3x0x5, kw3x0x6, kw3x0x7⟩ := kc8 hbw3 w.heap.size
   have zw3x0 : w.heap.size < w3.heap.size := by omega
   have Hhbw3 := Lib.hid hbw3; clear hbw3
   clear gw2 kw2x0x0 kw2x0x1 kw2x0x2 kw2x0x3 kw2x0x4 kw2x0x5 kw2x0x6 kw2x0x7
   go_wp2_with fail
   go_ret2
   exact ⟨rfl, gw3⟩
 | true =>
  cases h1 : y.ok with
  | false =>
   rw [h0] at q1
   rw [h1] at q2
   have fin := bestI_of h0 h1 rfl
   generalize bestI x y = I at *
   generalize bestB x y = E at *
   have hI : I = 0 := by simpa using fin.1
   have hE : E = true := by simpa using fin.2
   subst hI hE
   clear fin
   have ⟨Hhx, Hhy, Hb1, Hq1, Hq2, Hh0, Hh1⟩ := hid7 hx hy b1 q1 q2 h0 h1; clear hx hy b1 q1 q2 h0 h1
   go_enter Tryz.func88, Tryz.ntmps88
   go_wp2_with fail
   refine (Hq1.out).mono ?_; rintro e w2 ⟨rfl, hbw2⟩
   have hsw2 := hbw2.size; (try simp only [World.size_alloc, World.heap_drewN, World.size_setCell, heap_drew] at hsw2)
   have gw2 : Below w.heap.size w w2 := belt
   obtain ⟨kw2x0x0, kw2x0x1, kw2x0x2, kw2x0x3, kw2x0x4, kw2x0x5, kw2x0x6, kw2x0x7⟩ := kc8 hbw2 w.heap.size
   have zw2x0 : w.heap.size < w2.heap.size := by omega
   have Hhbw2 := Lib.hid hbw2; clear hbw2
   have q2 := Hq2.out w2 (Hhy.out.below gw2)
   have Hq2 := Lib.hid q2; clear q2
   go_wp2_with fail
   refine (Hq2.out).mono ?_; rintro e w3 ⟨rfl, hbw3⟩
   have hsw3 := hbw3.size; (try simp only [World.size_alloc, World.heap_drewN, World.size_setCell, heap_drew] at hsw3)
   have gw3 : Below w.heap.size w w3 := belt
   obtain ⟨kw3x0x0, kw3x0x1, kw3x0x2, kw3x0x3, kw3x0x4, kw3x0x5, kw3x0x6, kw3x0x7⟩ := kc8 hbw3 w.heap.size
   have zw3x0 : w.heap.size < w3.heap.size := by omega
   have Hhbw3 := Lib.hid hbw3; clear hbw3
   clear gw2 kw2x0x0 kw2x0x1 kw2x0x2 kw2x0x3 kw2x0x4 kw2x0x5 kw2x0x6 kw2x0x7
   go_wp2_with fail
   go_ret2
   exact ⟨rfl, gw3⟩
  | true =>
   by_cases hlt : x.s < y.s
   ·have hg : decide (x.s < y.s) = true := by simpa using hlt
    rw [h0] at q1
    rw [h1] at q2
    have fin := bestI_of h0 h1 hg
    generalize bestI x y = I at *
    generalize bestB x y = E at *
    have hI : I = 1 := by simpa using fin.1
    have hE : E = true := by simpa using fin.2
    subst hI hE
    clear fin
    have ⟨Hhx, Hhy, Hb1, Hq1, Hq2, Hh0, Hh1⟩ := hid7 hx hy b1 q1 q2 h0 h1; clear hx hy b1 q1 q2 h0 h1
    go_enter Tryz.func88, Tryz.ntmps88
    go_wp2_with fail
    refine (Hq1.out).mono ?_; rintro e w2 ⟨rfl, hbw2⟩
    have hsw2 := hbw2.size; (try simp only [World.size_alloc, World.heap_drewN, World.size_setCell, heap_drew] at hsw2)
    have gw2 : Below w.heap.size w w2 := belt
    obtain ⟨kw2x0x0, kw2x0x1, kw2x0x2, kw2x0x3, kw2x0x4, kw2x0x5, kw2x0x6, kw2x0x7⟩ := kc8 hbw2 w.heap.size
    have zw2x0 : w.heap.size < w2.heap.size := by omega
    have Hhbw2 := Lib.hid hbw2; clear hbw2
    have q2 := Hq2.out w2 (Hhy.out.below gw2)
    have Hq2 := Lib.hid q2; clear q2
    go_wp2_with fail
    refine (Hq2.out).mono ?_; rintro e w3 ⟨rfl, hbw3⟩
    have hsw3 := hbw3.size; (try simp only [World.size_alloc, World.heap_drewN, World.size_setCell, heap_drew] at hsw3)
    have gw3 : Below w.heap.size w w3 := belt
    obtain ⟨kw3x0x0, kw3x0x1, kw3x0x2, kw3x0x3, kw3x0x4, kw3x0x5, kw3x0x6, kw3x0x7⟩ := kc8 hbw3 w.heap.size
    have zw3x0 : w.heap.size < w3.heap.size := by omega
    have Hhbw3 := Lib.hid hbw3; clear hbw3
    clear gw2 kw2x0x0 kw2x0x1 kw2x0x2 kw2x0x3 kw2x0x4 kw2x0x5 kw2x0x6 kw2x0x7
    go_wp2_with fail
    go_ret2
    exact ⟨rfl, gw3⟩
   ·have hg : decide (x.s < y.s) = false := by simpa using hlt
    rw [h0] at q1
    rw [h1] at q2
    have fin := bestI_of h0 h1 hg
    generalize bestI x y = I at *
    generalize bestB x y = E at *
    have hI : I = 0 := by simpa using fin.1
    have hE : E = true := by simpa using fin.2
    subst hI hE
    clear fin
    have ⟨Hhx, Hhy, Hb1, Hq1, Hq2, Hh0, Hh1⟩ := hid7 hx hy b1 q1 q2 h0 h1; clear hx hy b1 q1 q2 h0 h1
    go_enter Tryz.func88, Tryz.ntmps88
    go_wp2_with fail
    refine (Hq1.out).mono ?_; rintro e w2 ⟨rfl, hbw2⟩
    have hsw2 := hbw2.size; (try simp only [World.size_alloc, World.heap_drewN, World.size_setCell, heap_drew] at hsw2)
    have gw2 : Below w.heap.size w w2 := belt
    obtain ⟨kw2x0x0, kw2x0x1, kw2x0x2, kw2x0x3, kw2x0x4, kw2x0x5, kw2x0x6, kw2x0x7⟩ := kc8 hbw2 w.heap.size
    have zw2x0 : w.heap.size < w2.heap.size := by omega
    have Hhbw2 := Lib.hid hbw2; clear hbw2
    have q2 := Hq2.out w2 (Hhy.out.below gw2)
    have Hq2 := Lib.hid q2; clear q2
    go_wp2_with fail
    refine (Hq2.out).mono ?_; rintro e w3 ⟨rfl, hbw3⟩
    have hsw3 := hbw3.size; (try simp only [World.size_alloc, World.heap_drewN, World.size_setCell, heap_drew] at hsw3)
    have gw3 : Below w.heap.size w w3 := belt
    obtain ⟨kw3x0x0, kw3x0x1, kw3x0x2, kw3x0x3, kw3x0x4, kw3x0x5, kw3x0x6, kw3x0x7⟩ := kc8 hbw3 w.heap.size
    have zw3x0 : w.heap.size < w3.heap.size := by omega
    have Hhbw3 := Lib.hid hbw3; clear hbw3
    clear gw2 kw2x0x0 kw2x0x1 kw2x0x2 kw2x0x3 kw2x0x4 kw2x0x5 kw2x0x6 kw2x0x7
    go_wp2_with fail
    go_ret2
    exact ⟨rfl, gw3⟩
set_option maxHeartbeats 8000000 in
theorem rwrite_maken (x y : Slt) (c at_ : Int) (A : Option Addr) (n p : Nat) (B : Option Addr) (m q : Nat) (D : Option Addr) (k r : Nat) (l : List Int) (hlk : l.length = k) (w : World) (hx : SlotIs w A n x) (hy : SlotIs w B m y) (hc : -9223372036854775808 ≤ c ∧ c ≤ 9223372036854775807) (hl : IntsAt w D .i64 l) (hf : Fit l)
  (hE : bestB x y = false) (EE : Int) (hEE : (EE != 0) = true) (hm : ∀ W, Below w.heap.size w W → Calls Tryz.prog 91 #[.int .i64 0, .int .i64 c, .slice D k r] W (SlotErr Slt.zero EE W)) :
  Calls Tryz.prog 68 #[.agg #[.int .i64 x.s, .int .i64 x.c, .slice A n p, .int .u64 x.u, .int .i64 y.s, .int .i64 y.c, .slice B m q, .int .u64 y.u], .int .i64 c, .slice D k r, .int .i64 at_] w (SlotsErr Slt.zero Slt.zero EE w) := by
 have b1 : Below w.heap.size w ((w.alloc (.cells #[.int .i64 x.s, .int .i64 x.c, .slice A n p, .int .u64 x.u, .int .i64 y.s, .int .i64 y.c, .slice B m q, .int .u64 y.u] 46)).alloc (.cells #[.int .i64 0, .int .i64 0, .slice none 0 0, .int .u64 0, .int .i64 0, .int .i64 0, .slice none 0 0, .int .u64 0] 46)) := ((Below.refl _ _).alloc (Nat.le_refl _) _).alloc (by simp) _
 have q3 := rbest_any x y A n p B m q _ (hx.below b1) (hy.below b1)
 rw [hE] at q3
 have q1 := hm
 have ⟨Hhx, Hhy, Hhc, Hhl, Hhf, HhE, Hb1, Hq1⟩ := hid8 hx hy hc hl hf hE b1 q1; clear hx hy hc hl hf hE b1 q1; have ⟨Hq3, Hhlk, Hhm⟩ := hid3 q3 hlk hm; clear q3 hlk hm
 go_enter Tryz.func68, Tryz.ntmps68
 go_wp2_with fail
 refine (Hq3.out).mono ?_; rintro e w2 ⟨rfl, hbw2⟩
 have hsw2 := hbw2.size; (try simp only [World.size_alloc, World.heap_drewN, World.size_setCell, heap_drew] at hsw2)
 have gw2 : Below w.heap.size w w2 := belt
 obtain ⟨kw2x0x0, fw2x0x0, kw2x0x1, fw2x0x1, kw2x0x2, fw2x0x2, kw2x0x3, fw2x0x3, kw2x0x4, fw2x0x4, kw2x0x5, fw2x0x5, kw2x0x6, fw2x0x6, kw2x0x7, fw2x0x7⟩ := kf8 hbw2 w.heap.size
 have zw2x0 : w.heap.size < w2.heap.size := by omega
 obtain ⟨kw2x1x0, fw2x1x0, kw2x1x1, fw2x1x1, kw2x1x2, fw2x1x2, kw2x1x3, fw2x1x3, kw2x1x4, fw2x1x4, kw2x1x5, fw2x1x5, kw2x1x6, fw2x1x6, kw2x1x7, fw2x1x7⟩ := kf8 hbw2 (w.heap.size + 1)
 have zw2x1 : w.heap.size + 1 < w2.heap.size := by omega
 have Hhbw2 := Lib.hid hbw2; clear hbw2
 have q1 := Hq1.out w2 gw2
 unfold SlotErr at q1
 dsimp only [Slt.zero] at q1
 try rw [Hhlk.out] at q1
 have Hq1 := Lib.hid q1; clear q1
 go_wp2_with fail
 refine (Hq1.out).mono ?_; rintro e w3 ⟨X, cx, rfl, ho, hbw3⟩
 have hsw3 := hbw3.size; (try simp only [World.size_alloc, World.heap_drewN, World.size_setCell, heap_drew] at hsw3)
 have gw3 : Below w.heap.size w w3 := belt
 obtain ⟨kw3x0x0, fw3x0x0, kw3x0x1, fw3x0x1, kw3x0x2, fw3x0x2, kw3x0x3, fw3x0x3, kw3x0x4, fw3x0x4, kw3x0x5, fw3x0x5, kw3x0x6, fw3x0x6, kw3x0x7, fw3x0x7⟩ := kf8 hbw3 w.heap.size
 have zw3x0 : w.heap.size < w3.heap.size := by omega
 obtain ⟨kw3x1x0, fw3x1x0, kw3x1x1, fw3x1x1, kw3x1x2, fw3x1x2, kw3x1x3, fw3x1x3, kw3x1x4, fw3x1x4, kw3x1x5, fw3x1x5, kw3x1x6, fw3x1x6, kw3x1x7, fw3x1x7⟩ := kf8 hbw3 (w.heap.size + 1)
 have zw3x1 : w.heap.size + 1 < w3.heap.size := by omega
 have Hhbw3 := Lib.hid hbw3; clear hbw3
 clear gw2 kw2x0x0 fw2x0x0 kw2x0x1 fw2x0x1 kw2x0x2 fw2x0x2 kw2x0x3 fw2x0x3 kw2x0x4 fw2x0x4 kw2x0x5 fw2x0x5 kw2x0x6 fw2x0x6 kw2x0x7 fw2x0x7 kw2x1x0 fw2x1x0 kw2x1x1 fw2x1x1 kw2x1x2 fw2x1x2 kw2x1x3 fw2x1x3 kw2x1x4 fw2x1x4 kw2x1x5 fw2x1x5 kw2x1x6 fw2x1x6 kw2x1x7 fw2x1x7
 go_wp2_with fail
 refine bodyPost_ret (v := .tuple #[.agg #[.int .i64 0, .int .i64 0, .slice none 0 0, .int .u64 0, .int .i64 0, .int .i64 0, .slice none 0 0, .int .u64 0], .int .i64 EE]) (by simp [results, Tryz.results68, go_sem, *]) rfl (slotsErr_zero belt)
set_option maxHeartbeats 8000000 in
theorem rwrite_argn (x y : Slt) (c at_ : Int) (A : Option Addr) (n p : Nat) (B : Option Addr) (m q : Nat) (D : Option Addr) (k r : Nat) (l : List Int) (hlk : l.length = k) (w : World) (hx : SlotIs w A n x) (hy : SlotIs w B m y) (hc : -9223372036854775808 ≤ c ∧ c ≤ 9223372036854775807) (hl : IntsAt w D .i64 l) (hk : k ≤ 500) (hf : Fit l)
    (hE : bestB x y = false) (hF : fldB 0 c l = true) (h3 : ¬ (0 ≤ at_ ∧ at_ ≤ 3)) :
    Calls Tryz.prog 68 #[.agg #[.int .i64 x.s, .int .i64 x.c, .slice A n p, .int .u64 x.u, .int .i64 y.s, .int .i64 y.c, .slice B m q, .int .u64 y.u], .int .i64 c, .slice D k r, .int .i64 at_] w (SlotsErr Slt.zero Slt.zero 1 w) := by
  have b1 : Below w.heap.size w ((w.alloc (.cells #[.int .i64 x.s, .int .i64 x.c, .slice A n p, .int .u64 x.u, .int .i64 y.s, .int .i64 y.c, .slice B m q, .int .u64 y.u] 46)).alloc (.cells #[.int .i64 0, .int .i64 0, .slice none 0 0, .int .u64 0, .int .i64 0, .int .i64 0, .slice none 0 0, .int .u64 0] 46)) := ((Below.refl _ _).alloc (Nat.le_refl _) _).alloc (by simp) _
  have q3 := rbest_any x y A n p B m q _ (hx.below b1) (hy.below b1)
  rw [hE] at q3
  have q1 := fun W (hb : Below w.heap.size w W) => rmake_ok 0 c D r k l hlk W (by omega) hc (hl.below hb) hk hf hF
  rcases Int.lt_or_le at_ 0 with ha | ha
  all_goals
    have hh := h3
    clear h3
    first
    | have d1 : decide (at_ < 0) = true := decide_eq_true ha
    | (have d1 : decide (at_ < 0) = false := decide_eq_false (by omega)
       have d2 : decide (3 < at_) = true := decide_eq_true (by omega))
    have ⟨Hhx, Hhy, Hhc, Hhl, Hhf, HhE, Hb1, Hq1⟩ := hid8 hx hy hc hl hf hE b1 q1; clear hx hy hc hl hf hE b1 q1; have ⟨Hq3, Hhlk, HhF, Hhh, Hha⟩ := hid5 q3 hlk hF hh ha; clear q3 hlk hF hh ha
    go_enter Tryz.func68, Tryz.ntmps68
    go_wp2_with fail
    refine (Hq3.out).mono ?_; rintro e w2 ⟨rfl, hbw2⟩
    have hsw2 := hbw2.size; (try simp only [World.size_alloc, World.heap_drewN, World.size_setCell, heap_drew] at hsw2)
    have gw2 : Below w.heap.size w w2 := belt
    obtain ⟨kw2x0x0, fw2x0x0, kw2x0x1, fw2x0x1, kw2x0x2, fw2x0x2, kw2x0x3, fw2x0x3, kw2x0x4, fw2x0x4, kw2x0x5, fw2x0x5, kw2x0x6, fw2x0x6, kw2x0x7, fw2x0x7⟩ := kf8 hbw2 w.heap.size
    have zw2x0 : w.heap.size < w2.heap.size := by omega
    obtain ⟨kw2x1x0, fw2x1x0, kw2x1x1, fw2x1x1, kw2x1x2, fw2x1x2, kw2x1x3, fw2x1x3, kw2x1x4, fw2x1x4, kw2x1x5, fw2x1x5, kw2x1x6, fw2x1x6, kw2x1x7, fw2x1x7⟩ := kf8 hbw2 (w.heap.size + 1)
    have zw2x1 : w.heap.size + 1 < w2.heap.size := by omega
    have Hhbw2 := Lib.hid hbw2; clear hbw2
    have q1 := Hq1.out w2 gw2
    unfold SlotErr at q1
    dsimp only [Slt.made] at q1
    try rw [Hhlk.out] at q1
    have Hq1 := Lib.hid q1; clear q1
    go_wp2_with fail
    refine (Hq1.out).mono ?_; rintro e w3 ⟨X, cx, rfl, ho, hbw3⟩
    have hsw3 := hbw3.size; (try simp only [World.size_alloc, World.heap_drewN, World.size_setCell, heap_drew] at hsw3)
    have gw3 : Below w.heap.size w w3 := belt
    obtain ⟨kw3x0x0, fw3x0x0, kw3x0x1, fw3x0x1, kw3x0x2, fw3x0x2, kw3x0x3, fw3x0x3, kw3x0x4, fw3x0x4, kw3x0x5, fw3x0x5, kw3x0x6, fw3x0x6, kw3x0x7, fw3x0x7⟩ := kf8 hbw3 w.heap.size
    have zw3x0 : w.heap.size < w3.heap.size := by omega
    obtain ⟨kw3x1x0, fw3x1x0, kw3x1x1, fw3x1x1, kw3x1x2, fw3x1x2, kw3x1x3, fw3x1x3, kw3x1x4, fw3x1x4, kw3x1x5, fw3x1x5, kw3x1x6, fw3x1x6, kw3x1x7, fw3x1x7⟩ := kf8 hbw3 (w.heap.size + 1)
    have zw3x1 : w.heap.size + 1 < w3.heap.size := by omega
    have Hhbw3 := Lib.hid hbw3; clear hbw3
    clear gw2 kw2x0x0 fw2x0x0 kw2x0x1 fw2x0x1 kw2x0x2 fw2x0x2 kw2x0x3 fw2x0x3 kw2x0x4 fw2x0x4 kw2x0x5 fw2x0x5 kw2x0x6 fw2x0x6 kw2x0x7 fw2x0x7 kw2x1x0 fw2x1x0 kw2x1x1 fw2x1x1 kw2x1x2 fw2x1x2 kw2x1x3 fw2x1x3 kw2x1x4 fw2x1x4 kw2x1x5 fw2x1x5 kw2x1x6 fw2x1x6 kw2x1x7 fw2x1x7
    go_wp2_with fail
    refine bodyPost_ret (v := .tuple #[.agg #[.int .i64 0, .int .i64 0, .slice none 0 0, .int .u64 0, .int .i64 0, .int .i64 0, .slice none 0 0, .int .u64 0], .int .i64 1]) (by simp [results, Tryz.results68, go_sem, *]) rfl (slotsErr_zero belt)
end Go.Proofs.YtclgncaghiinhaaGreatDoor

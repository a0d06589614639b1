/- Contracts of package slot: Best. -/
import Derived.Test.YtclgncaghiinhaaGreatDoorU6
set_option linter.unusedSimpArgs false
set_option linter.unusedVariables false
set_option maxRecDepth 100000
namespace Go.Proofs.YtclgncaghiinhaaGreatDoor
open Go.RowKit
/-- the fields of a slot are integers, its list is not too long -/
structure SlotIs (w : World) (A : Option Addr) (n : Nat) (x : Slt) : Prop where
 len : x.l.length = n
 s : -9223372036854775808 ≤ x.s ∧ x.s ≤ 9223372036854775807
 c : -9223372036854775808 ≤ x.c ∧ x.c ≤ 9223372036854775807
 ints : IntsAt w A .i64 x.l
 few : n ≤ 100000
 fit : Fit x.l
 u : 0 ≤ x.u ∧ x.u ≤ 18446744073709551615
theorem SlotIs.below {w w' : World} {A : Option Addr} {n : Nat} {x : Slt} (h : SlotIs w A n x) (hb : Below w.heap.size w w') : SlotIs w' A n x := ⟨h.len, h.s, h.c, h.ints.below hb, h.few, h.fit, h.u⟩
theorem valid_at {x : Slt} {A : Option Addr} {n : Nat} (cap : Nat) {w : World} (h : SlotIs w A n x) (ht : Tab w) :
  Calls Tryz.prog 102 #[.agg #[.int .i64 x.s, .int .i64 x.c, .slice A n cap, .int .u64 x.u]] w fun e w' => e = .returned (.bool x.ok) ∧ Below w.heap.size w w' :=
 valid_any x.s x.c x.u A cap n x.l h.len w h.s h.c h.ints h.few h.fit ht
theorem bestI_of {x y : Slt} {v0 v1 g : Bool} (h0 : x.ok = v0) (h1 : y.ok = v1) (hg : decide (x.s < y.s) = g) : bestI x y = (if (v1 && (!v0 || g)) = true then 1 else 0) ∧ bestB x y = (v0 || v1) := by
 subst h0 h1 hg; exact ⟨rfl, rfl⟩
theorem heldEnd {w w1 W : World} (g : Below w.heap.size w w1) (h : (∀ b o, b < w1.heap.size → W.cell? ⟨b, o, none⟩ = w1.cell? ⟨b, o, none⟩) ∧ Below w1.heap.size w1 W) : Below w.heap.size w W := g.trans (h.2.mono g.size)
theorem eql2 (a b c d : Bool) (w : World) : Sem.run Tryz.prog (Op.equalIn 10000 147 (.agg #[.bool a, .bool b]) (.agg #[.bool c, .bool d])) w = .ok (a == c && b == d) w := by
 cases a <;> cases b <;> cases c <;> cases d <;> kernel_rfl
set_option maxHeartbeats 2000000 in
theorem best_any (x y : Slt) (A : Option Addr) (n p : Nat) (B : Option Addr) (m q : Nat) (w : World) (hx : SlotIs w A n x) (hy : SlotIs w B m y) (ht : Tab w) :
  Calls Tryz.prog 83 #[.agg #[.int .i64 x.s, .int .i64 x.c, .slice A n p, .int .u64 x.u, .int .i64 y.s, .int .i64 y.c, .slice B m q, .int .u64 y.u]] w fun e w' => e = .returned (.tuple #[.int .i64 (bestI x y), .bool (bestB x y)]) ∧ Below w.heap.size w w' := by
 obtain ⟨w1, hw1⟩ : ∃ w1, w.alloc (.cells #[.int .i64 x.s, .int .i64 x.c, .slice A n p, .int .u64 x.u, .int .i64 y.s, .int .i64 y.c, .slice B m q, .int .u64 y.u] 46) = w1 := ⟨_, rfl⟩
 have b1 : Below w.heap.size w w1 := by rw [← hw1]; exact (Below.refl _ _).alloc (Nat.le_refl _) _
 have s1 : w1.heap.size = w.heap.size + 1 := by rw [← hw1]; simp
 have k0 : Cel w1 w.heap.size 0 (.int .i64 x.s) := by rw [← hw1]; exact cel_new rfl rfl
 have k1 : Cel w1 w.heap.size 1 (.int .i64 x.c) := by rw [← hw1]; exact cel_new rfl rfl
 have k2 : Cel w1 w.heap.size 2 (.slice A n p) := by rw [← hw1]; exact cel_new rfl rfl
 have k3 : Cel w1 w.heap.size 3 (.int .u64 x.u) := by rw [← hw1]; exact cel_new rfl rfl
 have k4 : Cel w1 w.heap.size 4 (.int .i64 y.s) := by rw [← hw1]; exact cel_new rfl rfl
 have k5 : Cel w1 w.heap.size 5 (.int .i64 y.c) := by rw [← hw1]; exact cel_new rfl rfl
 have k6 : Cel w1 w.heap.size 6 (.slice B m q) := by rw [← hw1]; exact cel_new rfl rfl
 have k7 : Cel w1 w.heap.size 7 (.int .u64 y.u) := by rw [← hw1]; exact cel_new rfl rfl
 have eq2 := eql2
 have q1 := fun W (h : SlotIs W A n x) h2 => valid_at p h h2
 have q2 := fun W (h : SlotIs W B m y) h2 => valid_at q h h2
 have x1 := hx.below b1
 have y1 := hy.below b1
 have t1 := ht.below b1
 cases h0 : x.ok with
 | false =>
  cases h1 : y.ok with
  | false =>
   rw [h0] at q1
   rw [h1] at q2
   have fin := bestI_of h0 h1 rfl
   have sz : w.heap.size < w1.heap.size := k0.lt
   have c0 := k0.at; have c1 := k1.at; have c2 := k2.at; have c3 := k3.at; have c4 := k4.at; have c5 := k5.at; have c6 := k6.at; have c7 := k7.at
   generalize bestI x y = I at *
   generalize bestB x y = E at *
   have hI : I = 0 := by simpa using fin.1
   have hE : E = false := by simpa using fin.2
   subst hI hE
   clear fin
   have ⟨Hhx, Hhy, Hht, Hb1, Hs1, Hk0, Hk1, Hk2⟩ := hid8 hx hy ht b1 s1 k0 k1 k2; clear hx hy ht b1 s1 k0 k1 k2; have ⟨Hk3, Hk4, Hk5, Hk6, Hk7, Hq1, Hq2, Hx1⟩ := hid8 k3 k4 k5 k6 k7 q1 q2 x1; clear k3 k4 k5 k6 k7 q1 q2 x1; have ⟨Hy1, Ht1, Hh0, Hh1, Hhw1⟩ := hid5 y1 t1 h0 h1 hw1; clear y1 t1 h0 h1 hw1
   go_enter Tryz.func83, Tryz.ntmps83
   go_wp2_with fail
   rw [Hhw1.out]
   go_region_held3 (fun W => (∀ b o, b < w1.heap.size → W.cell? ⟨b, o, none⟩ = w1.cell? ⟨b, o, none⟩) ∧ Below w1.heap.size w1 W) (first | (refine ext_mk ?_; exact belt)) (first | (go_at_call 102; (with_reducible refine (Hq1.out _ ?_ ?_).mono ?_); (focus (exact Hx1.out.below (And.right (by assumption : _ ∧ Below w1.heap.size w1 _)))); (focus (exact Ht1.out.below (And.right (by assumption : _ ∧ Below w1.heap.size w1 _)))); rintro e w2 ⟨rfl, hbw2⟩; have gw2 := Below.trans (And.right (by assumption : _ ∧ Below w1.heap.size w1 _)) (hbw2.mono (Below.size (And.right (by assumption : _ ∧ Below w1.heap.size w1 _)))); have gsw2 := gw2.size; have hcf := bcell hbw2; have hcw2 := hcf.1; have hfw2 := hcf.2; have hsw2 := hbw2.size; (try simp only [World.size_alloc, World.heap_drewN, heap_drew] at hsw2); clear hbw2 hcf; (try have hzw2 : w1.heap.size < w2.heap.size := by omega)) | (go_at_call 102; (with_reducible refine (Hq2.out _ ?_ ?_).mono ?_); (focus (exact Hy1.out.below (And.right (by assumption : _ ∧ Below w1.heap.size w1 _)))); (focus (exact Ht1.out.below (And.right (by assumption : _ ∧ Below w1.heap.size w1 _)))); rintro e w3 ⟨rfl, hbw3⟩; have gw3 := Below.trans (And.right (by assumption : _ ∧ Below w1.heap.size w1 _)) (hbw3.mono (Below.size (And.right (by assumption : _ ∧ Below w1.heap.size w1 _)))); have gsw3 := gw3.size; have hcf := bcell hbw3; have hcw3 := hcf.1; have hfw3 := hcf.2; have hsw3 := hbw3.size; (try simp only [World.size_alloc, World.heap_drewN, heap_drew] at hsw3); clear hbw3 hcf; (try have hzw3 : w1.heap.size < w3.heap.size := by omega)))
   all_goals
    go_wp2_with fail
    go_ret2
    exact ⟨rfl, heldEnd Hb1.out (by assumption)⟩
  | true =>
   rw [h0] at q1
   rw [h1] at q2
   have fin := bestI_of h0 h1 rfl
   have sz : w.heap.size < w1.heap.size := k0.lt
   have c0 := k0.at; have c1 := k1.at; have c2 := k2.at; have c3 := k3.at; have c4 := k4.at; have c5 := k5.at; have c6 := k6.at; have c7 := k7.at
   generalize bestI x y = I at *
   generalize bestB x y = E at *
   have hI : I = 1 := by simpa using fin.1
   have hE : E = true := by simpa using fin.2
   subst hI hE
   clear fin
   have ⟨Hhx, Hhy, Hht, Hb1, Hs1, Hk0, Hk1, Hk2⟩ := hid8 hx hy ht b1 s1 k0 k1 k2; clear hx hy ht b1 s1 k0 k1 k2; have ⟨Hk3, Hk4, Hk5, Hk6, Hk7, Hq1, Hq2, Hx1⟩ := hid8 k3 k4 k5 k6 k7 q1 q2 x1; clear k3 k4 k5 k6 k7 q1 q2 x1; have ⟨Hy1, Ht1, Hh0, Hh1, Hhw1⟩ := hid5 y1 t1 h0 h1 hw1; clear y1 t1 h0 h1 hw1
   go_enter Tryz.func83, Tryz.ntmps83
   go_wp2_with fail
   rw [Hhw1.out]
   go_region_held3 (fun W => (∀ b o, b < w1.heap.size → W.cell? ⟨b, o, none⟩ = w1.cell? ⟨b, o, none⟩) ∧ Below w1.heap.size w1 W) (first | (refine ext_mk ?_; exact belt)) (first | (go_at_call 102; (with_reducible refine (Hq1.out _ ?_ ?_).mono ?_); (focus (exact Hx1.out.below (And.right (by assumption : _ ∧ Below w1.heap.size w1 _)))); (focus (exact Ht1.out.below (And.right (by assumption : _ ∧ Below w1.heap.size w1 _)))); rintro e w2 ⟨rfl, hbw2⟩; have gw2 := Below.trans (And.right (by assumption : _ ∧ Below w1.heap.size w1 _)) (hbw2.mono (Below.size (And.right (by assumption : _ ∧ Below w1.heap.size w1 _)))); have gsw2 := gw2.size; have hcf := bcell hbw2; have hcw2 := hcf.1; have hfw2 := hcf.2; have hsw2 := hbw2.size; (try simp only [World.size_alloc, World.heap_drewN, heap_drew] at hsw2); clear hbw2 hcf; (try have hzw2 : w1.heap.size < w2.heap.size := by omega)) | (go_at_call 102; (with_reducible refine (Hq2.out _ ?_ ?_).mono ?_); (focus (exact Hy1.out.below (And.right (by assumption : _ ∧ Below w1.heap.size w1 _)))); (focus (exact Ht1.out.below (And.right (by assumption : _ ∧ Below w1.heap.size w1 _)))); rintro e w3 ⟨rfl, hbw3⟩; have gw3 := Below.trans (And.right (by assumption : _ ∧ Below w1.heap.size w1 _)) (hbw3.mono (Below.size (And.right (by assumption : _ ∧ Below w1.heap.size w1 _)))); have gsw3 := gw3.size; have hcf := bcell hbw3; have hcw3 := hcf.1; have hfw3 := hcf.2; have hsw3 := hbw3.size; (try simp only [World.size_alloc, World.heap_drewN, heap_drew] at hsw3); clear hbw3 hcf; (try have hzw3 : w1.heap.size < w3.heap.size := by omega)))
   all_goals
    go_wp2_with fail
    go_ret2
    exact ⟨rfl, heldEnd Hb1.out (by assumption)⟩
 | true =>
  cases h1 : y.ok with
  | false =>
   rw [h0] at q1
   rw [h1] at q2
   have fin := bestI_of h0 h1 rfl
   have sz : w.heap.size < w1.heap.size := k0.lt
   have c0 := k0.at; have c1 := k1.at; have c2 := k2.at; have c3 := k3.at; have c4 := k4.at; have c5 := k5.at; have c6 := k6.at; have c7 := k7.at
   generalize bestI x y = I at *
   generalize bestB x y = E at *
   have hI : I = 0 := by simpa using fin.1
   have hE : E = true := by simpa using fin.2
   subst hI hE
   clear fin
   have ⟨Hhx, Hhy, Hht, Hb1, Hs1, Hk0, Hk1, Hk2⟩ := hid8 hx hy ht b1 s1 k0 k1 k2; clear hx hy ht b1 s1 k0 k1 k2; have ⟨Hk3, Hk4, Hk5, Hk6, Hk7, Hq1, Hq2, Hx1⟩ := hid8 k3 k4 k5 k6 k7 q1 q2 x1; clear k3 k4 k5 k6 k7 q1 q2 x1; have ⟨Hy1, Ht1, Hh0, Hh1, Hhw1⟩ := hid5 y1 t1 h0 h1 hw1; clear y1 t1 h0 h1 hw1
   go_enter Tryz.func83, Tryz.ntmps83
   go_wp2_with fail
   rw [Hhw1.out]
   go_region_held3 (fun W => (∀ b o, b < w1.heap.size → W.cell? ⟨b, o, none⟩ = w1.cell? ⟨b, o, none⟩) ∧ Below w1.heap.size w1 W) (first | (refine ext_mk ?_; exact belt)) (first | (go_at_call 102; (with_reducible refine (Hq1.out _ ?_ ?_).mono ?_); (focus (exact Hx1.out.below (And.right (by assumption : _ ∧ Below w1.heap.size w1 _)))); (focus (exact Ht1.out.below (And.right (by assumption : _ ∧ Below w1.heap.size w1 _)))); rintro e w2 ⟨rfl, hbw2⟩; have gw2 := Below.trans (And.right (by assumption : _ ∧ Below w1.heap.size w1 _)) (hbw2.mono (Below.size (And.right (by assumption : _ ∧ Below w1.heap.size w1 _)))); have gsw2 := gw2.size; have hcf := bcell hbw2; have hcw2 := hcf.1; have hfw2 := hcf.2; have hsw2 := hbw2.size; (try simp only [World.size_alloc, World.heap_drewN, heap_drew] at hsw2); clear hbw2 hcf; (try have hzw2 : w1.heap.size < w2.heap.size := by omega)) | (go_at_call 102; (with_reducible refine (Hq2.out _ ?_ ?_).mono ?_); (focus (exact Hy1.out.below (And.right (by assumption : _ ∧ Below w1.heap.size w1 _)))); (focus (exact Ht1.out.below (And.right (by assumption : _ ∧ Below w1.heap.size w1 _)))); rintro e w3 ⟨rfl, hbw3⟩; have gw3 := Below.trans (And.right (by assumption : _ ∧ Below w1.heap.size w1 _)) (hbw3.mono (Below.size (And.right (by assumption : _ ∧ Below w1.heap.size w1 _)))); have gsw3 := gw3.size; have hcf := bcell hbw3; have hcw3 := hcf.1; have hfw3 := hcf.2; have hsw3 := hbw3.size; (try simp only [World.size_alloc, World.heap_drewN, heap_drew] at hsw3); clear hbw3 hcf; (try have hzw3 : w1.heap.size < w3.heap.size := by omega)))
   all_goals
    go_wp2_with fail
    go_ret2
    exact ⟨rfl, heldEnd Hb1.out (by assumption)⟩
  | true =>
   by_cases hlt : x.s < y.s
   ·have hg : decide (x.s < y.s) = true := by simpa using hlt
    rw [h0] at q1
    rw [h1] at q2
    have fin := bestI_of h0 h1 hg
    have sz : w.heap.size < w1.heap.size := k0.lt
    have c0 := k0.at; have c1 := k1.at; have c2 := k2.at; have c3 := k3.at; have c4 := k4.at; have c5 := k5.at; have c6 := k6.at; have c7 := k7.at
    generalize bestI x y = I at *
    generalize bestB x y = E at *
    have hI : I = 1 := by simpa using fin.1
    have hE : E = true := by simpa using fin.2
    subst hI hE
    clear hg
    have ⟨Hhx, Hhy, Hht, Hb1, Hs1, Hk0, Hk1, Hk2⟩ := hid8 hx hy ht b1 s1 k0 k1 k2; clear hx hy ht b1 s1 k0 k1 k2; have ⟨Hk3, Hk4, Hk5, Hk6, Hk7, Hq1, Hq2, Hx1⟩ := hid8 k3 k4 k5 k6 k7 q1 q2 x1; clear k3 k4 k5 k6 k7 q1 q2 x1; have ⟨Hy1, Ht1, Hh0, Hh1, Hhw1⟩ := hid5 y1 t1 h0 h1 hw1; clear y1 t1 h0 h1 hw1
    clear fin
    go_enter Tryz.func83, Tryz.ntmps83
    go_wp2_with fail
    rw [Hhw1.out]
    go_region_held3 (fun W => (∀ b o, b < w1.heap.size → W.cell? ⟨b, o, none⟩ = w1.cell? ⟨b, o, none⟩) ∧ Below w1.heap.size w1 W) (first | (refine ext_mk ?_; exact belt)) (first | (go_at_call 102; (with_reducible refine (Hq1.out _ ?_ ?_).mono ?_); (focus (exact Hx1.out.below (And.right (by assumption : _ ∧ Below w1.heap.size w1 _)))); (focus (exact Ht1.out.below (And.right (by assumption : _ ∧ Below w1.heap.size w1 _)))); rintro e w2 ⟨rfl, hbw2⟩; have gw2 := Below.trans (And.right (by assumption : _ ∧ Below w1.heap.size w1 _)) (hbw2.mono (Below.size (And.right (by assumption : _ ∧ Below w1.heap.size w1 _)))); have gsw2 := gw2.size; have hcf := bcell hbw2; have hcw2 := hcf.1; have hfw2 := hcf.2; have hsw2 := hbw2.size; (try simp only [World.size_alloc, World.heap_drewN, heap_drew] at hsw2); clear hbw2 hcf; (try have hzw2 : w1.heap.size < w2.heap.size := by omega)) | (go_at_call 102; (with_reducible refine (Hq2.out _ ?_ ?_).mono ?_); (focus (exact Hy1.out.below (And.right (by assumption : _ ∧ Below w1.heap.size w1 _)))); (focus (exact Ht1.out.below (And.right (by assumption : _ ∧ Below w1.heap.size w1 _)))); rintro e w3 ⟨rfl, hbw3⟩; have gw3 := Below.trans (And.right (by assumption : _ ∧ Below w1.heap.size w1 _)) (hbw3.mono (Below.size (And.right (by assumption : _ ∧ Below w1.heap.size w1 _)))); have gsw3 := gw3.size; have hcf := bcell hbw3; have hcw3 := hcf.1; have hfw3 := hcf.2; have hsw3 := hbw3.size; (try simp only [World.size_alloc, World.heap_drewN, heap_drew] at hsw3); clear hbw3 hcf; (try have hzw3 : w1.heap.size < w3.heap.size := by omega)))
    all_goals
     go_wp2_with fail
     go_ret2
     exact ⟨rfl, heldEnd Hb1.out (by assumption)⟩
   ·have hg : decide (x.s < y.s) = false := by simpa using hlt
    rw [h0] at q1
    rw [h1] at q2
    have fin := bestI_of h0 h1 hg
    have sz : w.heap.size < w1.heap.size := k0.lt
    have c0 := k0.at; have c1 := k1.at; have c2 := k2.at; have c3 := k3.at; have c4 := k4.at; have c5 := k5.at; have c6 := k6.at; have c7 := k7.at
    generalize bestI x y = I at *
    generalize bestB x y = E at *
    have hI : I = 0 := by simpa using fin.1
    have hE : E = true := by simpa using fin.2
    subst hI hE
    clear hg
    have ⟨Hhx, Hhy, Hht, Hb1, Hs1, Hk0, Hk1, Hk2⟩ := hid8 hx hy ht b1 s1 k0 k1 k2; clear hx hy ht b1 s1 k0 k1 k2; have ⟨Hk3, Hk4, Hk5, Hk6, Hk7, Hq1, Hq2, Hx1⟩ := hid8 k3 k4 k5 k6 k7 q1 q2 x1; clear k3 k4 k5 k6 k7 q1 q2 x1; have ⟨Hy1, Ht1, Hh0, Hh1, Hhw1⟩ := hid5 y1 t1 h0 h1 hw1; clear y1 t1 h0 h1 hw1
    clear fin
    go_enter Tryz.func83, Tryz.ntmps83
    go_wp2_with fail
    rw [Hhw1.out]
    go_region_held3 (fun W => (∀ b o, b < w1.heap.size → W.cell? ⟨b, o, none⟩ = w1.cell? ⟨b, o, none⟩) ∧ Below w1.heap.size w1 W) (first | (refine ext_mk ?_; exact belt)) (first | (go_at_call 102; (with_reducible refine (Hq1.out _ ?_ ?_).mono ?_); (focus (exact Hx1.out.below (And.right (by assumption : _ ∧ Below w1.heap.size w1 _)))); (focus (exact Ht1.out.below (And.right (by assumption : _ ∧ Below w1.heap.size w1 _)))); rintro e w2 ⟨rfl, hbw2⟩; have gw2 := Below.trans (And.right (by assumption : _ ∧ Below w1.heap.size w1 _)) (hbw2.mono (Below.size (And.right (by assumption : _ ∧ Below w1.heap.size w1 _)))); have gsw2 := gw2.size; have hcf := bcell hbw2; have hcw2 := hcf.1; have hfw2 := hcf.2; have hsw2 := hbw2.size; (try simp only [World.size_alloc, World.heap_drewN, heap_drew] at hsw2); clear hbw2 hcf; (try have hzw2 : w1.heap.size < w2.heap.size := by omega)) | (go_at_call 102; (with_reducible refine (Hq2.out _ ?_ ?_).mono ?_); (focus (exact Hy1.out.below (And.right (by assumption : _ ∧ Below w1.heap.size w1 _)))); (focus (exact Ht1.out.below (And.right (by assumption : _ ∧ Below w1.heap.size w1 _)))); rintro e w3 ⟨rfl, hbw3⟩; have gw3 := Below.trans (And.right (by assumption : _ ∧ Below w1.heap.size w1 _)) (hbw3.mono (Below.size (And.right (by assumption : _ ∧ Below w1.heap.size w1 _)))); have gsw3 := gw3.size; have hcf := bcell hbw3; have hcw3 := hcf.1; have hfw3 := hcf.2; have hsw3 := hbw3.size; (try simp only [World.size_alloc, World.heap_drewN, heap_drew] at hsw3); clear hbw3 hcf; (try have hzw3 : w1.heap.size < w3.heap.size := by omega)))
    all_goals
     go_wp2_with fail
     go_ret2
     exact ⟨rfl, heldEnd Hb1.out (by assumption)⟩
end Go.Proofs.YtclgncaghiinhaaGreatDoor

/- Contracts of package slot: within, summed, Valid. -/
import Derived.Test.YtclgncaghiinhaaGreatDoorU4
set_option linter.unusedSimpArgs false
set_option linter.unusedVariables false
set_option maxRecDepth 100000
namespace Go.Proofs.YtclgncaghiinhaaGreatDoor
open Go.RowKit
theorem swithin_any (n lo hi : Int) (w : World) : Calls Tryz.prog 100 #[.int .i64 n, .int .i64 lo, .int .i64 hi] w fun e w' => e = .returned (.bool (wB n lo hi)) ∧ w = w' := by
 by_cases h1 : lo ≤ n
 ·by_cases h2 : n ≤ hi
  ·have e : wB n lo hi = true := by simp [wB, h1, h2]
   have He := Lib.hid e; clear e
   go_enter Tryz.func100, Tryz.ntmps100
   go_wp2
   go_ret
   exact ⟨ret_bool (by rw [He.out]), rfl⟩
  ·have e : wB n lo hi = false := by simp [wB, h2]
   have h3 : decide (n ≤ hi) = false := by simpa using h2
   have He := Lib.hid e; clear e
   go_enter Tryz.func100, Tryz.ntmps100
   go_wp2
   go_ret
   exact ⟨ret_bool (by rw [He.out]), rfl⟩
 ·have e : wB n lo hi = false := by simp [wB, h1]
  have h3 : decide (lo ≤ n) = false := by simpa using h1
  have He := Lib.hid e; clear e
  go_enter Tryz.func100, Tryz.ntmps100
  go_wp2
  go_ret
  exact ⟨ret_bool (by rw [He.out]), rfl⟩
set_option maxHeartbeats 1000000 in
theorem rises_any (A : Option Addr) (c n : Nat) (l : List Int) (hln : l.length = n) (w : World) (hl : IntsAt w A .i64 l) (hn : n ≤ 100000) :
  Calls Tryz.prog 99 #[.slice A n c] w fun e w' => e = .returned (.bool (risB 0 l)) ∧ w = w' := by
 generalize hR : risB 0 l = R
 have h0 : R = risB 0 (l.drop 0) := by rw [List.drop_zero]; exact hR.symm
 have ⟨Hhl, Hhln, HhR, Hh0⟩ := hid4 hl hln hR h0; clear hl hln hR h0
 go_enter Tryz.func99, Tryz.ntmps99
 go_wp2_with fail
 go_loop [3, 8] (fun t i => ∃ (k : Nat) (d : Int), k ≤ n ∧ i = .int .i64 k ∧ t = .int .i64 d ∧ 0 ≤ d ∧ d ≤ 1000000 ∧ R = risB d (l.drop k)) (fun _ i => n - (intOf i).toNat)
 case atStart => exact ⟨0, 0, by omega, rfl, rfl, by omega, by omega, Hh0.out⟩
 case round =>
  obtain ⟨k, d, hk, rfl, rfl, d0, d1, hRk⟩ := hrel
  by_cases hlt : k < n
  ·obtain ⟨b, off, rfl, hb, hc⟩ := Hhl.out k (by rw [Hhln.out]; exact hlt)
   rw [ris_drop (by rw [Hhln.out]; exact hlt)] at hRk
   have q := fun W => swithin_any (l.getD k 0) (d + 1) 1000000 W
   have hw := @wB_iff (l.getD k 0) (d + 1) 1000000
   generalize l.getD k 0 = x at *
   cases hx : wB x (d + 1) 1000000 with
   | true =>
    rw [hx] at q
    rw [hx, Bool.true_and] at hRk
    have hxx := hw.1 hx
    have x0 := hxx.1
    have x1 := hxx.2
    have ⟨Hq, HhRk, Hhw, Hhx, Hhxx⟩ := hid5 q hRk hw hx hxx; clear q hRk hw hx hxx
    go_wp2_with fail
    refine (Hq.out _).mono ?_
    rintro e w_ ⟨rfl, rfl⟩
    go_wp2_with fail
    go_round
    case rel => exact ⟨k + 1, x, by omega, by go_num, rfl, by omega, by omega, HhRk.out⟩
    case measure => simp [intOf]; omega
   | false =>
    rw [hx] at q
    rw [hx, Bool.false_and] at hRk
    have ⟨Hq, HhRk, Hhw, Hhx⟩ := hid4 q hRk hw hx; clear q hRk hw hx
    go_wp2_with fail
    refine (Hq.out _).mono ?_
    rintro e w_ ⟨rfl, rfl⟩
    go_wp2_with fail
    go_ret
    exact ⟨ret_bool HhRk.out.symm, rfl⟩
  ·rw [ris_end (by rw [Hhln.out]; omega)] at hRk
   have HhRk := Lib.hid hRk; clear hRk
   go_wp2_with fail
   go_ret
   exact ⟨ret_bool HhRk.out.symm, rfl⟩
/-- two numbers ahead of a list -/
theorem fit_two' {a b : Int} {l : List Int} (ha : -9223372036854775808 ≤ a ∧ a ≤ 9223372036854775807) (hb : -9223372036854775808 ≤ b ∧ b ≤ 9223372036854775807) (hl : Fit l) : Fit (a :: b :: l) := fit_cons ha (fit_cons hb hl)
set_option maxHeartbeats 2000000 in
theorem summed_any (s c u : Int) (A : Option Addr) (cap n : Nat) (l : List Int) (hln : l.length = n) (w : World) (hs : -9223372036854775808 ≤ s ∧ s ≤ 9223372036854775807) (hc : -9223372036854775808 ≤ c ∧ c ≤ 9223372036854775807) (hl : IntsAt w A .i64 l) (hn : n ≤ 100000) (hf : Fit l) (ht : Tab w) :
  Calls Tryz.prog 79 #[.agg #[.int .i64 s, .int .i64 c, .slice A n cap, .int .u64 u]] w fun e w' => e = .returned (.tuple #[.agg #[.int .i64 s, .int .i64 c, .slice A n cap, .int .u64 (sumS s c l)], .bool (fldB s c l)]) ∧ Below w.heap.size w w' := by
 obtain ⟨i0, hi, hz0, hz1, hz2⟩ := info_parts infoI64
 have q1 := fun W X x (h1 : IntsAt W X .i64 ([s, c] ++ l)) h2 => digNext_val 0 X x (2 + n) (s :: c :: l) (by simp [hln]; omega) (sumS s c l) rfl W (by omega) h1 (by omega) (fit_two' hs hc hf) h2
 generalize sumS s c l = U at *
 obtain ⟨w1, hw1⟩ : ∃ w1, (w.alloc (.cells #[.int .i64 s, .int .i64 c, .slice A n cap, .int .u64 u] 45)).alloc (.cells #[.int .i64 0, .int .i64 0, .slice none 0 0, .int .u64 0] 45) = w1 := ⟨_, rfl⟩
 have b1 : Below w.heap.size w w1 := by rw [← hw1]; exact ((Below.refl _ _).alloc (Nat.le_refl _) _).alloc (by simp) _
 have s1 : w1.heap.size = w.heap.size + 2 := by rw [← hw1]; simp
 have l1 := hl.below b1
 have t1 := ht.below b1
 have r1 := fun W => swithin_any s 0 1000000000 W
 have r2 := fun W => swithin_any c 0 1000000000 W
 have r3 := fun W (h : IntsAt W A .i64 l) => rises_any A cap n l hln W h hn
 have fin : fldB s c l = (wB s 0 1000000000 && wB c 0 1000000000 && len5B l.length && risB 0 l) := rfl
 rw [hln] at fin
 generalize fldB s c l = F at *
 generalize hX1 : wB s 0 1000000000 = X1 at *
 generalize hX2 : wB c 0 1000000000 = X2 at *
 generalize hX3 : len5B n = X3 at *
 generalize hX4 : risB 0 l = X4 at *
 have ⟨Hq1, Hhl, Hht, Hhf, Hhln, Hhs, Hhc, Hb1⟩ := hid8 q1 hl ht hf hln hs hc b1; clear q1 hl ht hf hln hs hc b1; have ⟨Hl1, Ht1, Hhw1, Hs1, Hr1, Hr2, Hr3, Hfin⟩ := hid8 l1 t1 hw1 s1 r1 r2 r3 fin; clear l1 t1 hw1 s1 r1 r2 r3 fin; have ⟨HhX1, HhX2, HhX3, HhX4⟩ := hid4 hX1 hX2 hX3 hX4; clear hX1 hX2 hX3 hX4
 go_enter Tryz.func79, Tryz.ntmps79
 go_wp2_with (at_builtin; rw [Hhw1.out]; refine wp_app_at _ rfl (.tmp 9) (.tmp 11) _ rfl w1.heap.size 3 i0 _ 8 Tryz.underlying42 hi hz0 hz1 hz2 rfl .i64 (some ⟨w.heap.size + 2, 0, none⟩) 2 2 [s, c] rfl rfl (own_lit [s, c] (Nat.le_refl _) (by simp) _ Hs1.out) A cap n l Hhln.out rfl (Hl1.out.alloc _) ?_ ?_ ?_ ?_)
 ·omega
 ·omega
 ·simp
 intro A2 c2 w2 ho2 hg2 hB2
 have b2 : Below w1.heap.size w1 w2 := (own_lit (k := .i64) [s, c] (Nat.le_refl _) (by simp) _ Hs1.out).grow ((Below.refl _ _).alloc (Nat.le_refl _) _) hg2
 have c1 : Cel4 w1 w.heap.size 0 (.int .i64 s) (.int .i64 c) (.slice A n cap) (.int .u64 u) := by
  rw [← Hhw1.out]; refine ⟨(cel_new rfl rfl).alloc _, (cel_new rfl rfl).alloc _, (cel_new rfl rfl).alloc _, (cel_new rfl rfl).alloc _⟩
 have d1 : Cel4 w1 (w.heap.size + 1) 0 (.int .i64 0) (.int .i64 0) (.slice none 0 0) (.int .u64 0) := by
  rw [← Hhw1.out]; refine ⟨cel_new (by simp) rfl, cel_new (by simp) rfl, cel_new (by simp) rfl, cel_new (by simp) rfl⟩
 have c2' := c1.below b2
 have d2 := d1.below b2
 have p2 := Hq1.out w2 A2 c2 ho2.ints (Ht1.out.below b2)
 have m0 := c2'.1.at; have m1 := c2'.2.1.at; have m2 := c2'.2.2.1.at; have m3 := c2'.2.2.2.at
 have ⟨Hb2, Hc1, Hd1, Hc2', Hd2, Hho2, Hhg2, HhB2⟩ := hid8 b2 c1 d1 c2' d2 ho2 hg2 hB2; clear b2 c1 d1 c2' d2 ho2 hg2 hB2; have Hp2 := Lib.hid p2; clear p2
 go_wp2_with fail
 refine Hp2.out.mono ?_
 rintro e w3 ⟨rfl, b3⟩
 have c3 := Hc2'.out.below b3
 have d3 := Hd2.out.below b3
 have bb3 := Hb1.out.trans ((Hb2.out.trans (b3.mono Hb2.out.size)).mono (by rw [Hs1.out]; omega))
 clear m0 m1 m2 m3
 have n0 := c3.2.2.2.at; have n1 := c3.2.2.2.free
 have ⟨Hb3, Hc3, Hd3, Hbb3⟩ := hid4 b3 c3 d3 bb3; clear b3 c3 d3 bb3
 go_wp2_with fail
 have c4 : Cel4 (w3.setCell ⟨w.heap.size, 3, none⟩ (.int .u64 U)) w.heap.size 0 (.int .i64 s) (.int .i64 c) (.slice A n cap) (.int .u64 U) := ⟨Hc3.out.1.near (by omega) _, Hc3.out.2.1.near (by omega) _, Hc3.out.2.2.1.near (by omega) _, Hc3.out.2.2.2.same _⟩
 have d4 := Hd3.out.far (g := w.heap.size) (p := 3) (by omega) (.int .u64 U)
 have bb4 := below_set Hbb3.out (Nat.le_refl w.heap.size) 3 (.int .u64 U)
 obtain ⟨w4, hw4⟩ : ∃ w4, w3.setCell ⟨w.heap.size, 3, none⟩ (.int .u64 U) = w4 := ⟨_, rfl⟩
 rw [hw4] at c4 d4 bb4 ⊢
 clear n0 n1
 have c0 : w4.cell? ⟨w.heap.size, 0, none⟩ = _ := c4.1.at
 have c1 : w4.cell? ⟨w.heap.size, 1, none⟩ = _ := c4.2.1.at
 have c2 : w4.cell? ⟨w.heap.size, 2, none⟩ = _ := c4.2.2.1.at
 have c3 : w4.cell? ⟨w.heap.size, 3, none⟩ = _ := c4.2.2.2.at
 have d0 : w4.cell? ⟨w.heap.size + 1, 0, none⟩ = _ := d4.1.at
 have d1 : w4.cell? ⟨w.heap.size + 1, 1, none⟩ = _ := d4.2.1.at
 have d2 : w4.cell? ⟨w.heap.size + 1, 2, none⟩ = _ := d4.2.2.1.at
 have d3 : w4.cell? ⟨w.heap.size + 1, 3, none⟩ = _ := d4.2.2.2.at
 have f0 : w4.frozen? ⟨w.heap.size + 1, 0, none⟩ = false := d4.1.free
 have f1 : w4.frozen? ⟨w.heap.size + 1, 1, none⟩ = false := d4.2.1.free
 have f2 : w4.frozen? ⟨w.heap.size + 1, 2, none⟩ = false := d4.2.2.1.free
 have f3 : w4.frozen? ⟨w.heap.size + 1, 3, none⟩ = false := d4.2.2.2.free
 have l4 := Hhl.out.below bb4
 have ⟨Hc4, Hd4, Hbb4, Hhw4, Hl4⟩ := hid5 c4 d4 bb4 hw4 l4; clear c4 d4 bb4 hw4 l4
 cases X1 with
 | false =>
  refine wp_region_held_drew (S := (fun W => W.cell? ⟨w.heap.size, 0, none⟩ = some (.int .i64 s) ∧ W.cell? ⟨w.heap.size, 1, none⟩ = some (.int .i64 c) ∧ W.cell? ⟨w.heap.size, 2, none⟩ = some (.slice A n cap) ∧ W.cell? ⟨w.heap.size, 3, none⟩ = some (.int .u64 U))) (by kernel_rfl) ?_ (fun hHeld => ?_)
  ·(try dsimp only); go_keep
  refine tq 0 (some 15) ?_
  (try simp only [apz])
  refine tq 1 (some 16) ?_
  (try simp only [apz])
  refine tq 2 (some 17) ?_
  (try simp only [apz])
  refine wpAnyH_ready (rs := [3]) (by kernel_rfl) (by simp) ?_
  refine AllReadyH.cons rfl (fun K hK => ?_) AllReadyH.nil
  go_simp
  (first | (go_at_call 100; ((with_reducible refine (Hr1.out _).mono ?_); rintro e w_ ⟨rfl, rfl⟩)) | (go_at_call 100; ((with_reducible refine (Hr2.out _).mono ?_); rintro e w_ ⟨rfl, rfl⟩)) | (go_at_call 99; refine (Hr3.out w4.drew Hl4.out).mono ?_; rintro e w_ ⟨rfl, rfl⟩))
  refine hK.out _ _ ?_ (fun hHeld => ?_)
  ·(try dsimp only); go_keep
  clear hK K
  (try simp only [apz])
  refine tq 4 (some 19) ?_
  (try simp only [apz])
  refine skip_at (i := 5) (some 20) rfl rfl (by kernel_rfl) (fun _ _ _ h => h) (by rfl) (by assumption) ?_
  (try simp only [apz])
  refine skip_at (i := 6) (some 21) rfl rfl (by kernel_rfl) (fun _ _ _ h => h) (by rfl) (by assumption) ?_
  (try simp only [apz])
  refine skip_at (i := 7) (some 22) rfl rfl (by kernel_rfl) (fun _ _ _ h => h) (by rfl) (by assumption) ?_
  (try simp only [apz])
  refine tq 8 (some 23) ?_
  (try simp only [apz])
  refine tq 9 (some 24) ?_
  (try simp only [apz])
  refine skip_at (i := 10) (some 25) rfl rfl (by kernel_rfl) (fun _ _ _ h => h) (by rfl) (by assumption) ?_
  (try simp only [apz])
  refine skip_at (i := 11) (some 26) rfl rfl (by kernel_rfl) (fun _ _ _ h => h) (by rfl) (by assumption) ?_
  (try simp only [apz])
  refine skip_at (i := 12) (some 27) rfl rfl (by kernel_rfl) (fun _ _ _ h => h) (by rfl) (by assumption) ?_
  (try simp only [apz])
  refine skip_at (i := 13) (some 28) rfl rfl (by kernel_rfl) (fun _ _ _ h => h) (by rfl) (by assumption) ?_
  (try simp only [apz])
  refine tq 14 (some 29) ?_
  (try simp only [apz])
  refine tq 15 (some 30) ?_
  (try simp only [apz])
  refine skip_at (i := 16) (some 31) rfl rfl (by kernel_rfl) (fun _ _ _ h => h) (by rfl) (by assumption) ?_
  (try simp only [apz])
  refine skip_at (i := 17) (some 32) rfl rfl (by kernel_rfl) (fun _ _ _ h => h) (by rfl) (by assumption) ?_
  (try simp only [apz])
  refine skip_at (i := 18) (some 33) rfl rfl (by kernel_rfl) (fun _ _ _ h => h) (by rfl) (by assumption) ?_
  (try simp only [apz])
  refine skip_at (i := 19) (some 34) rfl rfl (by kernel_rfl) (fun _ _ _ h => h) (by rfl) (by assumption) ?_
  (try simp only [apz])
  refine tq 20 (some 35) ?_
  (try simp only [apz])
  refine wpAnyH_ready (rs := [21]) (by kernel_rfl) (by simp) ?_
  refine AllReadyH.cons rfl (fun K hK => ?_) AllReadyH.nil
  go_simp
  refine hK.out _ _ ?_ (fun hHeld => ?_)
  ·(try dsimp only); go_keep
  clear hK K
  (try simp only [apz])
  refine wpAnyH_ready (rs := [22]) (by kernel_rfl) (by simp) ?_
  refine AllReadyH.cons rfl (fun K hK => ?_) AllReadyH.nil
  go_simp
  refine hK.out _ _ ?_ (fun hHeld => ?_)
  ·(try dsimp only); go_keep
  clear hK K
  (try simp only [apz])
  refine wpAnyH_done (by kernel_rfl) ?_ _
  go_wp2_with fail
  have z := (Hd4.out.set4 (.int .i64 s) (.int .i64 c) (.slice A n cap) (.int .u64 U)).drew
  have z0 := z.1.at; have z1 := z.2.1.at; have z2 := z.2.2.1.at; have z3 := z.2.2.2.at
  have zb := (below_set4 Hbb4.out (Nat.le_succ _) 0 1 2 3 (.int .i64 s) (.int .i64 c) (.slice A n cap) (.int .u64 U)).drew
  have hF : F = false := by simpa using Hfin.out
  rw [hF]
  simp only [Nat.zero_add] at z0 z1 z2 z3
  refine bodyPost_ret (v := .tuple #[.agg #[.int .i64 s, .int .i64 c, .slice A n cap, .int .u64 U], .bool false]) (by simp [results, Tryz.results79, go_sem, z0, z1, z2, z3]) rfl ⟨rfl, zb⟩
 | true =>
 cases X2 with
 | false =>
  refine wp_region_held_drew (S := (fun W => W.cell? ⟨w.heap.size, 0, none⟩ = some (.int .i64 s) ∧ W.cell? ⟨w.heap.size, 1, none⟩ = some (.int .i64 c) ∧ W.cell? ⟨w.heap.size, 2, none⟩ = some (.slice A n cap) ∧ W.cell? ⟨w.heap.size, 3, none⟩ = some (.int .u64 U))) (by kernel_rfl) ?_ (fun hHeld => ?_)
  ·(try dsimp only); go_keep
  refine tq 0 (some 15) ?_
  (try simp only [apz])
  refine tq 1 (some 16) ?_
  (try simp only [apz])
  refine tq 2 (some 17) ?_
  (try simp only [apz])
  refine wpAnyH_ready (rs := [3]) (by kernel_rfl) (by simp) ?_
  refine AllReadyH.cons rfl (fun K hK => ?_) AllReadyH.nil
  go_simp
  (first | (go_at_call 100; ((with_reducible refine (Hr1.out _).mono ?_); rintro e w_ ⟨rfl, rfl⟩)) | (go_at_call 100; ((with_reducible refine (Hr2.out _).mono ?_); rintro e w_ ⟨rfl, rfl⟩)) | (go_at_call 99; refine (Hr3.out w4.drew Hl4.out).mono ?_; rintro e w_ ⟨rfl, rfl⟩))
  refine hK.out _ _ ?_ (fun hHeld => ?_)
  ·(try dsimp only); go_keep
  clear hK K
  (try simp only [apz])
  refine tq 4 (some 19) ?_
  (try simp only [apz])
  refine tq 5 (some 20) ?_
  (try simp only [apz])
  refine tq 6 (some 21) ?_
  (try simp only [apz])
  refine wpAnyH_ready (rs := [7]) (by kernel_rfl) (by simp) ?_
  refine AllReadyH.cons rfl (fun K hK => ?_) AllReadyH.nil
  go_simp
  (first | (go_at_call 100; ((with_reducible refine (Hr1.out _).mono ?_); rintro e w_ ⟨rfl, rfl⟩)) | (go_at_call 100; ((with_reducible refine (Hr2.out _).mono ?_); rintro e w_ ⟨rfl, rfl⟩)) | (go_at_call 99; refine (Hr3.out w4.drew Hl4.out).mono ?_; rintro e w_ ⟨rfl, rfl⟩))
  refine hK.out _ _ ?_ (fun hHeld => ?_)
  ·(try dsimp only); go_keep
  clear hK K
  (try simp only [apz])
  refine tq 8 (some 23) ?_
  (try simp only [apz])
  refine tq 9 (some 24) ?_
  (try simp only [apz])
  refine skip_at (i := 10) (some 25) rfl rfl (by kernel_rfl) (fun _ _ _ h => h) (by rfl) (by assumption) ?_
  (try simp only [apz])
  refine skip_at (i := 11) (some 26) rfl rfl (by kernel_rfl) (fun _ _ _ h => h) (by rfl) (by assumption) ?_
  (try simp only [apz])
  refine skip_at (i := 12) (some 27) rfl rfl (by kernel_rfl) (fun _ _ _ h => h) (by rfl) (by assumption) ?_
  (try simp only [apz])
  refine skip_at (i := 13) (some 28) rfl rfl (by kernel_rfl) (fun _ _ _ h => h) (by rfl) (by assumption) ?_
  (try simp only [apz])
  refine tq 14 (some 29) ?_
  (try simp only [apz])
  refine tq 15 (some 30) ?_
  (try simp only [apz])
  refine skip_at (i := 16) (some 31) rfl rfl (by kernel_rfl) (fun _ _ _ h => h) (by rfl) (by assumption) ?_
  (try simp only [apz])
  refine skip_at (i := 17) (some 32) rfl rfl (by kernel_rfl) (fun _ _ _ h => h) (by rfl) (by assumption) ?_
  (try simp only [apz])
  refine skip_at (i := 18) (some 33) rfl rfl (by kernel_rfl) (fun _ _ _ h => h) (by rfl) (by assumption) ?_
  (try simp only [apz])
  refine skip_at (i := 19) (some 34) rfl rfl (by kernel_rfl) (fun _ _ _ h => h) (by rfl) (by assumption) ?_
  (try simp only [apz])
  refine tq 20 (some 35) ?_
  (try simp only [apz])
  refine wpAnyH_ready (rs := [21]) (by kernel_rfl) (by simp) ?_
  refine AllReadyH.cons rfl (fun K hK => ?_) AllReadyH.nil
  go_simp
  refine hK.out _ _ ?_ (fun hHeld => ?_)
  ·(try dsimp only); go_keep
  clear hK K
  (try simp only [apz])
  refine wpAnyH_ready (rs := [22]) (by kernel_rfl) (by simp) ?_
  refine AllReadyH.cons rfl (fun K hK => ?_) AllReadyH.nil
  go_simp
  refine hK.out _ _ ?_ (fun hHeld => ?_)
  ·(try dsimp only); go_keep
  clear hK K
  (try simp only [apz])
  refine wpAnyH_done (by kernel_rfl) ?_ _
  go_wp2_with fail
  have z := (Hd4.out.set4 (.int .i64 s) (.int .i64 c) (.slice A n cap) (.int .u64 U)).drew
  have z0 := z.1.at; have z1 := z.2.1.at; have z2 := z.2.2.1.at; have z3 := z.2.2.2.at
  have zb := (below_set4 Hbb4.out (Nat.le_succ _) 0 1 2 3 (.int .i64 s) (.int .i64 c) (.slice A n cap) (.int .u64 U)).drew
  have hF : F = false := by simpa using Hfin.out
  rw [hF]
  simp only [Nat.zero_add] at z0 z1 z2 z3
  refine bodyPost_ret (v := .tuple #[.agg #[.int .i64 s, .int .i64 c, .slice A n cap, .int .u64 U], .bool false]) (by simp [results, Tryz.results79, go_sem, z0, z1, z2, z3]) rfl ⟨rfl, zb⟩
 | true =>
 cases X3 with
 | false =>
  have i1 : decide ((n : Int) ≤ 500) = false := by have := HhX3.out; simp only [len5B] at this; rw [← this, decide_eq_decide]; omega
  refine wp_region_held_drew (S := (fun W => W.cell? ⟨w.heap.size, 0, none⟩ = some (.int .i64 s) ∧ W.cell? ⟨w.heap.size, 1, none⟩ = some (.int .i64 c) ∧ W.cell? ⟨w.heap.size, 2, none⟩ = some (.slice A n cap) ∧ W.cell? ⟨w.heap.size, 3, none⟩ = some (.int .u64 U))) (by kernel_rfl) ?_ (fun hHeld => ?_)
  ·(try dsimp only); go_keep
  refine tq 0 (some 15) ?_
  (try simp only [apz])
  refine tq 1 (some 16) ?_
  (try simp only [apz])
  refine tq 2 (some 17) ?_
  (try simp only [apz])
  refine wpAnyH_ready (rs := [3]) (by kernel_rfl) (by simp) ?_
  refine AllReadyH.cons rfl (fun K hK => ?_) AllReadyH.nil
  go_simp
  (first | (go_at_call 100; ((with_reducible refine (Hr1.out _).mono ?_); rintro e w_ ⟨rfl, rfl⟩)) | (go_at_call 100; ((with_reducible refine (Hr2.out _).mono ?_); rintro e w_ ⟨rfl, rfl⟩)) | (go_at_call 99; refine (Hr3.out w4.drew Hl4.out).mono ?_; rintro e w_ ⟨rfl, rfl⟩))
  refine hK.out _ _ ?_ (fun hHeld => ?_)
  ·(try dsimp only); go_keep
  clear hK K
  (try simp only [apz])
  refine tq 4 (some 19) ?_
  (try simp only [apz])
  refine tq 5 (some 20) ?_
  (try simp only [apz])
  refine tq 6 (some 21) ?_
  (try simp only [apz])
  refine wpAnyH_ready (rs := [7]) (by kernel_rfl) (by simp) ?_
  refine AllReadyH.cons rfl (fun K hK => ?_) AllReadyH.nil
  go_simp
  (first | (go_at_call 100; ((with_reducible refine (Hr1.out _).mono ?_); rintro e w_ ⟨rfl, rfl⟩)) | (go_at_call 100; ((with_reducible refine (Hr2.out _).mono ?_); rintro e w_ ⟨rfl, rfl⟩)) | (go_at_call 99; refine (Hr3.out w4.drew Hl4.out).mono ?_; rintro e w_ ⟨rfl, rfl⟩))
  refine hK.out _ _ ?_ (fun hHeld => ?_)
  ·(try dsimp only); go_keep
  clear hK K
  (try simp only [apz])
  refine tq 8 (some 23) ?_
  (try simp only [apz])
  refine tq 9 (some 24) ?_
  (try simp only [apz])
  refine tq 10 (some 25) ?_
  (try simp only [apz])
  refine tq 11 (some 26) ?_
  (try simp only [apz])
  refine tq 12 (some 27) ?_
  (try simp only [apz])
  refine tq 13 (some 28) ?_
  (try simp only [apz])
  refine tq 14 (some 29) ?_
  (try simp only [apz])
  refine tq 15 (some 30) ?_
  (try simp only [apz])
  refine skip_at (i := 16) (some 31) rfl rfl (by kernel_rfl) (fun _ _ _ h => h) (by rfl) (by assumption) ?_
  (try simp only [apz])
  refine skip_at (i := 17) (some 32) rfl rfl (by kernel_rfl) (fun _ _ _ h => h) (by rfl) (by assumption) ?_
  (try simp only [apz])
  refine skip_at (i := 18) (some 33) rfl rfl (by kernel_rfl) (fun _ _ _ h => h) (by rfl) (by assumption) ?_
  (try simp only [apz])
  refine skip_at (i := 19) (some 34) rfl rfl (by kernel_rfl) (fun _ _ _ h => h) (by rfl) (by assumption) ?_
  (try simp only [apz])
  refine tq 20 (some 35) ?_
  (try simp only [apz])
  refine wpAnyH_ready (rs := [21]) (by kernel_rfl) (by simp) ?_
  refine AllReadyH.cons rfl (fun K hK => ?_) AllReadyH.nil
  go_simp
  refine hK.out _ _ ?_ (fun hHeld => ?_)
  ·(try dsimp only); go_keep
  clear hK K
  (try simp only [apz])
  refine wpAnyH_ready (rs := [22]) (by kernel_rfl) (by simp) ?_
  refine AllReadyH.cons rfl (fun K hK => ?_) AllReadyH.nil
  go_simp
  refine hK.out _ _ ?_ (fun hHeld => ?_)
  ·(try dsimp only); go_keep
  clear hK K
  (try simp only [apz])
  refine wpAnyH_done (by kernel_rfl) ?_ _
  go_wp2_with fail
  have z := (Hd4.out.set4 (.int .i64 s) (.int .i64 c) (.slice A n cap) (.int .u64 U)).drew
  have z0 := z.1.at; have z1 := z.2.1.at; have z2 := z.2.2.1.at; have z3 := z.2.2.2.at
  have zb := (below_set4 Hbb4.out (Nat.le_succ _) 0 1 2 3 (.int .i64 s) (.int .i64 c) (.slice A n cap) (.int .u64 U)).drew
  have hF : F = false := by simpa using Hfin.out
  rw [hF]
  simp only [Nat.zero_add] at z0 z1 z2 z3
  refine bodyPost_ret (v := .tuple #[.agg #[.int .i64 s, .int .i64 c, .slice A n cap, .int .u64 U], .bool false]) (by simp [results, Tryz.results79, go_sem, z0, z1, z2, z3]) rfl ⟨rfl, zb⟩
 | true =>
  have i1 : decide ((n : Int) ≤ 500) = true := by have := HhX3.out; simp only [len5B] at this; rw [← this, decide_eq_decide]; omega
  refine wp_region_held_drew (S := (fun W => W.cell? ⟨w.heap.size, 0, none⟩ = some (.int .i64 s) ∧ W.cell? ⟨w.heap.size, 1, none⟩ = some (.int .i64 c) ∧ W.cell? ⟨w.heap.size, 2, none⟩ = some (.slice A n cap) ∧ W.cell? ⟨w.heap.size, 3, none⟩ = some (.int .u64 U))) (by kernel_rfl) ?_ (fun hHeld => ?_)
  ·(try dsimp only); go_keep
  refine tq 0 (some 15) ?_
  (try simp only [apz])
  refine tq 1 (some 16) ?_
  (try simp only [apz])
  refine tq 2 (some 17) ?_
  (try simp only [apz])
  refine wpAnyH_ready (rs := [3]) (by kernel_rfl) (by simp) ?_
  refine AllReadyH.cons rfl (fun K hK => ?_) AllReadyH.nil
  go_simp
  (first | (go_at_call 100; ((with_reducible refine (Hr1.out _).mono ?_); rintro e w_ ⟨rfl, rfl⟩)) | (go_at_call 100; ((with_reducible refine (Hr2.out _).mono ?_); rintro e w_ ⟨rfl, rfl⟩)) | (go_at_call 99; refine (Hr3.out w4.drew Hl4.out).mono ?_; rintro e w_ ⟨rfl, rfl⟩))
  refine hK.out _ _ ?_ (fun hHeld => ?_)
  ·(try dsimp only); go_keep
  clear hK K
  (try simp only [apz])
  refine tq 4 (some 19) ?_
  (try simp only [apz])
  refine tq 5 (some 20) ?_
  (try simp only [apz])
  refine tq 6 (some 21) ?_
  (try simp only [apz])
  refine wpAnyH_ready (rs := [7]) (by kernel_rfl) (by simp) ?_
  refine AllReadyH.cons rfl (fun K hK => ?_) AllReadyH.nil
  go_simp
  (first | (go_at_call 100; ((with_reducible refine (Hr1.out _).mono ?_); rintro e w_ ⟨rfl, rfl⟩)) | (go_at_call 100; ((with_reducible refine (Hr2.out _).mono ?_); rintro e w_ ⟨rfl, rfl⟩)) | (go_at_call 99; refine (Hr3.out w4.drew Hl4.out).mono ?_; rintro e w_ ⟨rfl, rfl⟩))
  refine hK.out _ _ ?_ (fun hHeld => ?_)
  ·(try dsimp only); go_keep
  clear hK K
  (try simp only [apz])
  refine tq 8 (some 23) ?_
  (try simp only [apz])
  refine tq 9 (some 24) ?_
  (try simp only [apz])
  refine tq 10 (some 25) ?_
  (try simp only [apz])
  refine tq 11 (some 26) ?_
  (try simp only [apz])
  refine tq 12 (some 27) ?_
  (try simp only [apz])
  refine tq 13 (some 28) ?_
  (try simp only [apz])
  refine tq 14 (some 29) ?_
  (try simp only [apz])
  refine tq 15 (some 30) ?_
  (try simp only [apz])
  refine tq 16 (some 31) ?_
  (try simp only [apz])
  refine tq 17 (some 32) ?_
  (try simp only [apz])
  refine tq 18 (some 33) ?_
  (try simp only [apz])
  refine wpAnyH_ready (rs := [19]) (by kernel_rfl) (by simp) ?_
  refine AllReadyH.cons rfl (fun K hK => ?_) AllReadyH.nil
  go_simp
  (first | (go_at_call 100; ((with_reducible refine (Hr1.out _).mono ?_); rintro e w_ ⟨rfl, rfl⟩)) | (go_at_call 100; ((with_reducible refine (Hr2.out _).mono ?_); rintro e w_ ⟨rfl, rfl⟩)) | (go_at_call 99; refine (Hr3.out w4.drew Hl4.out).mono ?_; rintro e w_ ⟨rfl, rfl⟩))
  refine hK.out _ _ ?_ (fun hHeld => ?_)
  ·(try dsimp only); go_keep
  clear hK K
  (try simp only [apz])
  refine tq 20 (some 35) ?_
  (try simp only [apz])
  refine wpAnyH_ready (rs := [21]) (by kernel_rfl) (by simp) ?_
  refine AllReadyH.cons rfl (fun K hK => ?_) AllReadyH.nil
  go_simp
  refine hK.out _ _ ?_ (fun hHeld => ?_)
  ·(try dsimp only); go_keep
  clear hK K
  (try simp only [apz])
  refine wpAnyH_ready (rs := [22]) (by kernel_rfl) (by simp) ?_
  refine AllReadyH.cons rfl (fun K hK => ?_) AllReadyH.nil
  go_simp
  refine hK.out _ _ ?_ (fun hHeld => ?_)
  ·(try dsimp only); go_keep
  clear hK K
  (try simp only [apz])
  refine wpAnyH_done (by kernel_rfl) ?_ _
  go_wp2_with fail
  have z := (Hd4.out.set4 (.int .i64 s) (.int .i64 c) (.slice A n cap) (.int .u64 U)).drew
  have z0 := z.1.at; have z1 := z.2.1.at; have z2 := z.2.2.1.at; have z3 := z.2.2.2.at
  have zb := (below_set4 Hbb4.out (Nat.le_succ _) 0 1 2 3 (.int .i64 s) (.int .i64 c) (.slice A n cap) (.int .u64 U)).drew
  have hF : F = X4 := by simpa using Hfin.out
  rw [hF]
  simp only [Nat.zero_add] at z0 z1 z2 z3
  refine bodyPost_ret (v := .tuple #[.agg #[.int .i64 s, .int .i64 c, .slice A n cap, .int .u64 U], .bool X4]) (by simp [results, Tryz.results79, go_sem, z0, z1, z2, z3]) rfl ⟨rfl, zb⟩
end Go.Proofs.YtclgncaghiinhaaGreatDoor

/- The statements' helper head, of journals. -/
import Derived.Test.YtmbmejclnagffaaDoorM39
set_option linter.unusedSimpArgs false
set_option linter.unusedVariables false
set_option maxRecDepth 100000
namespace Go.Proofs.YtmbmejclnagffaaDoor
open Go.RowKit
def Ap1 (w : World) (e : Ending) (w' : World) : Prop := ∃ X c B k, e = .returned (.tuple #[.agg #[.slice X 1 c, .int .i64 2001, .int .i64 1, .int .u64 exH.c, .int .i64 exH.e, .int .i64 exH.s], .int .i64 0]) ∧ Msgs w' X [ex1 B k] ∧ Below w.heap.size w w'
theorem exH_c : exH.c = chainB [exI] := by unfold exH; dsimp only
theorem exH_1 (B : Option Addr) (k : Nat) : chI [ex1 B k] = exH.c := by rw [exH_c, chI]; exact congrArg chainB (by rfl)
theorem exH_2 (B : Option Addr) (k : Nat) : apH [ex1 B k] 2001 5 6 = exH := by
  unfold apH exH
  rw [exH_1, exH_c]
  rfl
theorem fit0 : HFit hd0 := ⟨by decide, by decide, by decide, by decide, by decide⟩
theorem ap1_any (W : World) (B : Option Addr) (h : IntsAt W B .i64 [3, 5, 900]) (ht : Tab W) (hc : Cnt W) :
    Calls Tryd.prog 20 #[.agg #[.slice none 0 0, .int .i64 0, .int .i64 0, .int .u64 0, .int .i64 0, .int .i64 0], .int .i64 2001, .int .i64 7, .int .i64 6, .slice B 3 3, .int .i64 5, .int .i64 6] W (Ap1 W) := by
  refine (jappend_any none 0 0 [] hd0 2001 7 6 B 3 3 [3, 5, 900] 5 6 rfl (by omega) fit0 (by omega) (by omega) (by omega) rfl (by omega) W RowsAt.nil h ht hc).mono ?_
  rintro e w' (⟨h1, _⟩ | ⟨_, X, c, B', k, h2, h3, h4, _⟩)
  · exact (h1 ex_E0).elim
  · have e0 : newM 2001 ([] : List Msg).length 7 6 B' k [3, 5, 900] = ex1 B' k := rfl
    rw [List.nil_append, e0] at h2 h3
    have e1 := exH_1 B' k
    have e2 := exH_2 B' k
    have e3 : (([] : List Msg).length : Int) + 1 = 1 := rfl
    rw [e1, e2, e3, List.length_nil, Nat.zero_add] at h2
    exact ⟨X, c, B', k, h2, h3, h4⟩
theorem apx_any (E time : Int) (a : List Int) (an : Nat) (hla : a.length = an) (han : an ≤ 1000) (ht9 : 0 ≤ time ∧ time ≤ 1000) (X : Option Addr) (c : Nat) (B0 : Option Addr) (k0 : Nat) (hE : apE [ex1 B0 k0] exH 2001 time 7 a 5 6 = E) (hne : E ≠ 0) (W : World) (B : Option Addr) (cb : Nat) (hx : Msgs W X [ex1 B0 k0]) (h : IntsAt W B .i64 a) (ht : Tab W) (hc : Cnt W) :
    Calls Tryd.prog 20 #[.agg #[.slice X 1 c, .int .i64 2001, .int .i64 1, .int .u64 exH.c, .int .i64 exH.e, .int .i64 exH.s], .int .i64 2001, .int .i64 time, .int .i64 7, .slice B an cb, .int .i64 5, .int .i64 6] W
      fun e w' => e = .returned (.tuple #[.agg #[.slice none 0 0, .int .i64 0, .int .i64 0, .int .u64 0, .int .i64 0, .int .i64 0], .int .i64 E]) ∧ Below W.heap.size W w' := by
  refine (jappend_any X c 1 [ex1 B0 k0] exH 2001 time 7 B cb an a 5 6 rfl (by omega) ex_fit (by omega) (by omega) (by omega) hla (by omega) W hx h ht hc).mono ?_
  rw [← hE] at hne ⊢
  rintro e w' (⟨_, h2, h3⟩ | ⟨h1, _⟩)
  · exact ⟨h2, h3⟩
  · exact absurd h1 hne
theorem lists_one {w : World} {A : Option Addr} {l : List Int} {n c m : Nat} (hl : l.length = n) (hc : n ≤ c) (h : IntsAt w A .i64 l) (E : TypeId) (hm : w.heap.size = m) : ListsAt (w.alloc (.cells #[.slice A n c] E)) (some ⟨m, 0, none⟩) [l] := fun i hi => by
  subst hm hl
  have e : i = 0 := by simp at hi; omega
  subst e
  refine ⟨w.heap.size, 0, A, c, rfl, by simp, ?_, hc, h.below ((Below.refl _ _).alloc (Nat.le_refl _) _)⟩
  rw [cell_of_row _ _ _ _ _ _ (heap_alloc_new w _)]
  rfl
set_option maxHeartbeats 16000000 in
set_option maxRecDepth 100000 in
theorem head39_any (w0 : World) (ht : Tab w0) (hc : Cnt w0) : Calls Tryd.prog 9 #[] w0 fun e w' => e = .returned (.bool true) ∧ Below w0.heap.size w0 w' := by
  have bb0 : Below w0.heap.size w0 w0 := Below.refl _ _
  have q1 := fun W => public_all 5 W
  rw [pub5, show errV (wthB 5 1) = 0 from by decide] at q1
  have q2 := ap1_any
  unfold Ap1 at q2
  have q4 := fun W h1 h2 => jcheck_any none 0 0 [] hd0 2002 1024 rfl (by omega) fit0 (by omega) W RowsAt.nil h1 h2
  rw [ex_c3.1, ex_c3.2] at q4
  have z0 : hd0.p = 0 ∧ hd0.n = 0 ∧ hd0.c = 0 ∧ hd0.e = 0 ∧ hd0.s = 0 := ⟨rfl, rfl, rfl, rfl, rfl⟩
  rw [z0.1, z0.2.1, z0.2.2.1, z0.2.2.2.1, z0.2.2.2.2] at q4
  have t0 := ht
  have m0 := hc
  clear z0
  have sM : ∀ W A c B d, IntsAt W A .i64 exI → IntsAt W B .i64 exI → Calls Tryd.prog 17 #[.slice A 7 c, .slice B 7 d] W fun e w' => e = .returned (.bool true) ∧ ∃ q, w' = W.drewN q := fun W A c B d h1 h2 => by
    have := jsameInts_any A B c d exI exI W h1 h2 (by decide) (by decide)
    rw [show sameB exI exI = true from by decide] at this
    exact this
  have sC : ∀ W A c, ListsAt W A [exI] → Tab W → Calls Tryd.prog 27 #[.slice A 1 c] W fun e w' => e = .returned (.int .u64 exH.c) ∧ Below W.heap.size W w' := fun W A c h1 h2 => by
    rw [exH_c]
    have := digChain_any A c [exI] W h1 (by simp) (fun l hl => by rw [List.mem_singleton] at hl; rw [hl]; exact ⟨by simp [exI], fun x hx => by simp only [exI, List.mem_cons, List.not_mem_nil, or_false] at hx; omega⟩) h2
    exact this
  have q7 := fun B0 k0 X c W B cb hx h => apx_any 6 6 [3, 900] 2 rfl (by omega) (by omega) X c B0 k0 (ex_E2 B0 k0) (by omega) W B cb hx h
  have q8 := fun B0 k0 X c W B cb hx h => apx_any 1 8 [3] 1 rfl (by omega) (by omega) X c B0 k0 (ex_E3 B0 k0) (by omega) W B cb hx h
  have q3 := fun B0 k0 X c W h1 h2 h3 => jcheck_any X c 1 [ex1 B0 k0] exH 2001 1024 rfl (by omega) ex_fit (by omega) W h1 h2 h3
  have q5 := fun B0 k0 X c W h1 h2 h3 => jcheck_any X c 1 [ex1 B0 k0] exH 2002 1024 rfl (by omega) ex_fit (by omega) W h1 h2 h3
  have q9 := fun B0 k0 X c W h1 h2 h3 => jcheck_any X c 1 [ex1 B0 k0] exH 999 1024 rfl (by omega) ex_fit (by omega) W h1 h2 h3
  simp only [(ex_c1 _ _).1, (ex_c1 none 0).2, (ex_c2 _ _).1, (ex_c2 none 0).2, (ex_c4 _ _).1, (ex_c4 none 0).2] at q3 q5 q9
  have hp : exH.p = 2001 := rfl
  have hn : exH.n = 1 := rfl
  rw [hp, hn] at q3 q5 q9
  have q6 := fun B0 k0 W h1 h2 => jargs_any (ex1 B0 k0) ⟨by show (-9223372036854775808 : Int) ≤ 2001 ∧ (2001 : Int) ≤ 9223372036854775807; omega, by show (-9223372036854775808 : Int) ≤ 1 ∧ (1 : Int) ≤ 9223372036854775807; omega, by show (-9223372036854775808 : Int) ≤ 7 ∧ (7 : Int) ≤ 9223372036854775807; omega, by show (-9223372036854775808 : Int) ≤ 6 ∧ (6 : Int) ≤ 9223372036854775807; omega, by show 3 ≤ _; omega⟩ W h1 h2
  unfold OwnErr at q6
  simp only [(ex_a _ _).1, (ex_a _ _).2, show exI.length = 7 from rfl] at q6
  have e6 : ∀ B0 k0, (ex1 B0 k0).cells.toArray = #[.int .i64 2001, .int .i64 1, .int .i64 7, .int .i64 6, .slice B0 3 k0] := fun _ _ => rfl
  simp only [e6] at q6
  clear e6 hp hn
  generalize exH.c = CH at *
  generalize exH.e = EE at *
  generalize exH.s = SS at *
  have ⟨H_ht, H_hc, H_t0, H_m0, H_bb0, H_q1, H_q2, H_q3⟩ := hid8 ht hc t0 m0 bb0 q1 q2 q3; clear ht hc t0 m0 bb0 q1 q2 q3; have ⟨H_q4, H_q5, H_q6, H_q7, H_q8, H_q9, H_sM, H_sC⟩ := hid8 q4 q5 q6 q7 q8 q9 sM sC; clear q4 q5 q6 q7 q8 q9 sM sC
  go_enter Tryd.func9, Tryd.ntmps9
  go_wp2_with fail
  (with_reducible refine (H_q1.out _).mono ?_)
  rintro e w1 ⟨rfl, b1⟩
  have c1 : Below w0.heap.size w0 w1 := Below.trans belt (b1.mono omh)
  have s1 := c1.size
  have bb1 := H_bb0.out.trans (c1.mono H_bb0.out.size)
  have t1 := H_t0.out.below c1
  have m1 := H_m0.out.below c1
  have ⟨H_b1, H_c1, H_bb1, H_t1, H_m1⟩ := hid5 b1 c1 bb1 t1 m1; clear b1 c1 bb1 t1 m1
  go_wp2_with fail
  (with_reducible refine (H_q2.out _ _ ?_ ?_ ?_).mono ?_)
  · exact ints_lit (w := w1) [3, 5, 900] _ rfl
  · exact H_t1.out.below (show Below w1.heap.size w1 _ from belt)
  · exact H_m1.out.below (show Below w1.heap.size w1 _ from belt)
  rintro e w2 ⟨X2, c2x, B2, k2x, rfl, x2, b2⟩
  have c2 : Below w1.heap.size w1 w2 := Below.trans belt (b2.mono omh)
  have s2 := c2.size
  have bb2 := H_bb1.out.trans (c2.mono H_bb1.out.size)
  have t2 := H_t1.out.below c2
  have m2 := H_m1.out.below c2
  have ⟨H_b2, H_c2, H_bb2, H_t2, H_m2⟩ := hid5 b2 c2 bb2 t2 m2; clear b2 c2 bb2 t2 m2
  have H_x2 := Lib.hid x2; clear x2
  go_upto_region 3 with (fail)
  obtain ⟨w3, hw3⟩ : ∃ W, w2.alloc (.cells #[.slice X2 1 c2x, .int .i64 2001, .int .i64 1, .int .u64 CH, .int .i64 EE, .int .i64 SS] 35) = W := ⟨_, rfl⟩
  rw [hw3]
  have d3 : Below w2.heap.size w2 w3 := by rw [← hw3]; exact (Below.refl _ _).alloc (Nat.le_refl _) _
  have bb3 := H_bb2.out.trans (d3.mono H_bb2.out.size)
  have j3 : Blk w3 w2.heap.size #[.slice X2 1 c2x, .int .i64 2001, .int .i64 1, .int .u64 CH, .int .i64 EE, .int .i64 SS] := by rw [← hw3]; exact blk_new rfl
  have t3 := H_t2.out.below d3
  have m3 := H_m2.out.below d3
  have x3 := H_x2.out.below d3
  have s3 : w2.heap.size < w3.heap.size := by rw [← hw3]; simp
  obtain ⟨b, off, hA, hbl, ⟨_, _, i3⟩, z0, z1, z2, z3, z4⟩ := x3.at (i := 0) rfl
  subst hA
  simp only [Nat.zero_mul, Nat.add_zero, ex1] at z0 z1 z2 z3 z4 i3
  simp only [List.length_cons, List.length_nil, Nat.zero_add, Nat.reduceAdd] at z4
  have ⟨H_hw3, H_d3, H_bb3, H_j3, H_t3, H_m3, H_x3, H_i3⟩ := hid8 hw3 d3 bb3 j3 t3 m3 x3 i3; clear hw3 d3 bb3 j3 t3 m3 x3 i3
  have v0 := (H_j3.out 0 _ rfl).at
  have v1 := (H_j3.out 1 _ rfl).at
  have v2 := (H_j3.out 2 _ rfl).at
  have v3 := (H_j3.out 3 _ rfl).at
  have v4 := (H_j3.out 4 _ rfl).at
  have v5 := (H_j3.out 5 _ rfl).at
  go_wp2_with fail
  (with_reducible refine (H_q6.out B2 k2x _ ?_ ?_).mono ?_)
  · exact H_i3.out.below (show Below w3.heap.size w3 _ from belt)
  · exact H_m3.out.below (show Below w3.heap.size w3 _ from belt)
  rintro e w4 ⟨A4, c4x, rfl, o4, b4⟩
  have c4 : Below w3.heap.size w3 w4 := Below.trans belt (b4.mono omh)
  have s4 := c4.size
  have bb4 := H_bb3.out.trans (c4.mono H_bb3.out.size)
  have t4 := H_t3.out.below c4
  have m4 := H_m3.out.below c4
  have j4 := H_j3.out.below c4
  have x4 := H_x3.out.below c4
  have ⟨H_b4, H_c4, H_bb4, H_t4, H_m4, H_j4, H_x4⟩ := hid7 b4 c4 bb4 t4 m4 j4 x4; clear b4 c4 bb4 t4 m4 j4 x4
  clear z0 z1 z2 z3 z4
  clear v0 v1 v2 v3 v4 v5
  have i4 := o4.ints
  have cap4 := o4.cap
  have ⟨H_o4, H_i4, H_cap4⟩ := hid3 o4 i4 cap4; clear o4 i4 cap4
  have v0 := (H_j4.out 0 _ rfl).at
  have v1 := (H_j4.out 1 _ rfl).at
  have v2 := (H_j4.out 2 _ rfl).at
  have v3 := (H_j4.out 3 _ rfl).at
  have v4 := (H_j4.out 4 _ rfl).at
  have v5 := (H_j4.out 5 _ rfl).at
  go_wp2_with fail
  (with_reducible refine (H_q3.out B2 k2x _ c2x _ ?_ ?_ ?_).mono ?_)
  · exact H_x4.out.below (show Below w4.heap.size w4 _ from belt)
  · exact H_t4.out.below (show Below w4.heap.size w4 _ from belt)
  · exact H_m4.out.below (show Below w4.heap.size w4 _ from belt)
  rintro e w5 ⟨rfl, b5⟩
  have c5 : Below w4.heap.size w4 w5 := Below.trans belt (b5.mono omh)
  have s5 := c5.size
  have bb5 := H_bb4.out.trans (c5.mono H_bb4.out.size)
  have t5 := H_t4.out.below c5
  have m5 := H_m4.out.below c5
  have j5 := H_j4.out.below c5
  have x5 := H_x4.out.below c5
  have i5 := H_i4.out.below c5
  have ⟨H_b5, H_c5, H_bb5, H_t5, H_m5, H_j5, H_x5, H_i5⟩ := hid8 b5 c5 bb5 t5 m5 j5 x5 i5; clear b5 c5 bb5 t5 m5 j5 x5 i5
  clear v0 v1 v2 v3 v4 v5
  have v0 := (H_j5.out 0 _ rfl).at
  have v1 := (H_j5.out 1 _ rfl).at
  have v2 := (H_j5.out 2 _ rfl).at
  have v3 := (H_j5.out 3 _ rfl).at
  have v4 := (H_j5.out 4 _ rfl).at
  have v5 := (H_j5.out 5 _ rfl).at
  go_wp2_with fail
  (with_reducible refine (H_q5.out B2 k2x _ c2x _ ?_ ?_ ?_).mono ?_)
  · exact H_x5.out.below (show Below w5.heap.size w5 _ from belt)
  · exact H_t5.out.below (show Below w5.heap.size w5 _ from belt)
  · exact H_m5.out.below (show Below w5.heap.size w5 _ from belt)
  rintro e w6 ⟨rfl, b6⟩
  have c6 : Below w5.heap.size w5 w6 := Below.trans belt (b6.mono omh)
  have s6 := c6.size
  have bb6 := H_bb5.out.trans (c6.mono H_bb5.out.size)
  have t6 := H_t5.out.below c6
  have m6 := H_m5.out.below c6
  have j6 := H_j5.out.below c6
  have x6 := H_x5.out.below c6
  have i6 := H_i5.out.below c6
  have ⟨H_b6, H_c6, H_bb6, H_t6, H_m6, H_j6, H_x6, H_i6⟩ := hid8 b6 c6 bb6 t6 m6 j6 x6 i6; clear b6 c6 bb6 t6 m6 j6 x6 i6
  clear v0 v1 v2 v3 v4 v5
  have v0 := (H_j6.out 0 _ rfl).at
  have v1 := (H_j6.out 1 _ rfl).at
  have v2 := (H_j6.out 2 _ rfl).at
  have v3 := (H_j6.out 3 _ rfl).at
  have v4 := (H_j6.out 4 _ rfl).at
  have v5 := (H_j6.out 5 _ rfl).at
  go_wp2_with fail
  (with_reducible refine (H_q4.out _ ?_ ?_).mono ?_)
  · exact H_t6.out.below (show Below w6.heap.size w6 _ from belt)
  · exact H_m6.out.below (show Below w6.heap.size w6 _ from belt)
  rintro e w7 ⟨rfl, b7⟩
  have c7 : Below w6.heap.size w6 w7 := Below.trans belt (b7.mono omh)
  have s7 := c7.size
  have bb7 := H_bb6.out.trans (c7.mono H_bb6.out.size)
  have t7 := H_t6.out.below c7
  have m7 := H_m6.out.below c7
  have j7 := H_j6.out.below c7
  have x7 := H_x6.out.below c7
  have i7 := H_i6.out.below c7
  have ⟨H_b7, H_c7, H_bb7, H_t7, H_m7, H_j7, H_x7, H_i7⟩ := hid8 b7 c7 bb7 t7 m7 j7 x7 i7; clear b7 c7 bb7 t7 m7 j7 x7 i7
  clear v0 v1 v2 v3 v4 v5
  have v0 := (H_j7.out 0 _ rfl).at
  have v1 := (H_j7.out 1 _ rfl).at
  have v2 := (H_j7.out 2 _ rfl).at
  have v3 := (H_j7.out 3 _ rfl).at
  have v4 := (H_j7.out 4 _ rfl).at
  have v5 := (H_j7.out 5 _ rfl).at
  go_wp2_with fail
  (with_reducible refine (H_q7.out B2 k2x _ c2x _ _ 2 ?_ ?_ ?_ ?_).mono ?_)
  · exact H_x7.out.below (show Below w7.heap.size w7 _ from belt)
  · exact ints_lit (w := w7) [3, 900] _ rfl
  · exact H_t7.out.below (show Below w7.heap.size w7 _ from belt)
  · exact H_m7.out.below (show Below w7.heap.size w7 _ from belt)
  rintro e w8 ⟨rfl, b8⟩
  have c8 : Below w7.heap.size w7 w8 := Below.trans belt (b8.mono omh)
  have s8 := c8.size
  have bb8 := H_bb7.out.trans (c8.mono H_bb7.out.size)
  have t8 := H_t7.out.below c8
  have m8 := H_m7.out.below c8
  have j8 := H_j7.out.below c8
  have x8 := H_x7.out.below c8
  have i8 := H_i7.out.below c8
  have ⟨H_b8, H_c8, H_bb8, H_t8, H_m8, H_j8, H_x8, H_i8⟩ := hid8 b8 c8 bb8 t8 m8 j8 x8 i8; clear b8 c8 bb8 t8 m8 j8 x8 i8
  clear v0 v1 v2 v3 v4 v5
  have v0 := (H_j8.out 0 _ rfl).at
  have v1 := (H_j8.out 1 _ rfl).at
  have v2 := (H_j8.out 2 _ rfl).at
  have v3 := (H_j8.out 3 _ rfl).at
  have v4 := (H_j8.out 4 _ rfl).at
  have v5 := (H_j8.out 5 _ rfl).at
  go_upto_region 10 with (fail)
  obtain ⟨w9, hw9⟩ : ∃ W, w8.alloc (.cells #[.slice none 0 0, .int .i64 0, .int .i64 0, .int .u64 0, .int .i64 0, .int .i64 0] 35) = W := ⟨_, rfl⟩
  rw [hw9]
  have d9 : Below w8.heap.size w8 w9 := by rw [← hw9]; exact (Below.refl _ _).alloc (Nat.le_refl _) _
  have bb9 := H_bb8.out.trans (d9.mono H_bb8.out.size)
  have j9 := H_j8.out.below d9
  have t9 := H_t8.out.below d9
  have m9 := H_m8.out.below d9
  have x9 := H_x8.out.below d9
  have i9 := H_i8.out.below d9
  clear v0 v1 v2 v3 v4 v5
  have ⟨H_hw9, H_d9, H_bb9, H_j9, H_t9, H_m9, H_x9, H_i9⟩ := hid8 hw9 d9 bb9 j9 t9 m9 x9 i9; clear hw9 d9 bb9 j9 t9 m9 x9 i9
  have v0 := (H_j9.out 0 _ rfl).at
  have v1 := (H_j9.out 1 _ rfl).at
  have v2 := (H_j9.out 2 _ rfl).at
  have v3 := (H_j9.out 3 _ rfl).at
  have v4 := (H_j9.out 4 _ rfl).at
  have v5 := (H_j9.out 5 _ rfl).at
  go_wp2_with fail
  (with_reducible refine (H_q8.out B2 k2x _ c2x _ _ 1 ?_ ?_ ?_ ?_).mono ?_)
  · exact H_x9.out.below (show Below w9.heap.size w9 _ from belt)
  · exact ints_lit (w := w9) [3] _ rfl
  · exact H_t9.out.below (show Below w9.heap.size w9 _ from belt)
  · exact H_m9.out.below (show Below w9.heap.size w9 _ from belt)
  rintro e w10 ⟨rfl, b10⟩
  have c10 : Below w9.heap.size w9 w10 := Below.trans belt (b10.mono omh)
  have s10 := c10.size
  have bb10 := H_bb9.out.trans (c10.mono H_bb9.out.size)
  have t10 := H_t9.out.below c10
  have m10 := H_m9.out.below c10
  have j10 := H_j9.out.below c10
  have x10 := H_x9.out.below c10
  have i10 := H_i9.out.below c10
  have ⟨H_b10, H_c10, H_bb10, H_t10, H_m10, H_j10, H_x10, H_i10⟩ := hid8 b10 c10 bb10 t10 m10 j10 x10 i10; clear b10 c10 bb10 t10 m10 j10 x10 i10
  clear v0 v1 v2 v3 v4 v5
  have v0 := (H_j10.out 0 _ rfl).at
  have v1 := (H_j10.out 1 _ rfl).at
  have v2 := (H_j10.out 2 _ rfl).at
  have v3 := (H_j10.out 3 _ rfl).at
  have v4 := (H_j10.out 4 _ rfl).at
  have v5 := (H_j10.out 5 _ rfl).at
  go_upto_region 11 with (fail)
  obtain ⟨w11, hw11⟩ : ∃ W, w10.alloc (.cells #[.slice none 0 0, .int .i64 0, .int .i64 0, .int .u64 0, .int .i64 0, .int .i64 0] 35) = W := ⟨_, rfl⟩
  rw [hw11]
  have d11 : Below w10.heap.size w10 w11 := by rw [← hw11]; exact (Below.refl _ _).alloc (Nat.le_refl _) _
  have bb11 := H_bb10.out.trans (d11.mono H_bb10.out.size)
  have j11 := H_j10.out.below d11
  have t11 := H_t10.out.below d11
  have m11 := H_m10.out.below d11
  have x11 := H_x10.out.below d11
  have i11 := H_i10.out.below d11
  clear v0 v1 v2 v3 v4 v5
  have ⟨H_hw11, H_d11, H_bb11, H_j11, H_t11, H_m11, H_x11, H_i11⟩ := hid8 hw11 d11 bb11 j11 t11 m11 x11 i11; clear hw11 d11 bb11 j11 t11 m11 x11 i11
  have v0 := (H_j11.out 0 _ rfl).at
  have v1 := (H_j11.out 1 _ rfl).at
  have v2 := (H_j11.out 2 _ rfl).at
  have v3 := (H_j11.out 3 _ rfl).at
  have v4 := (H_j11.out 4 _ rfl).at
  have v5 := (H_j11.out 5 _ rfl).at
  go_wp2_with fail
  (with_reducible refine (H_q9.out B2 k2x _ c2x _ ?_ ?_ ?_).mono ?_)
  · exact H_x11.out.below (show Below w11.heap.size w11 _ from belt)
  · exact H_t11.out.below (show Below w11.heap.size w11 _ from belt)
  · exact H_m11.out.below (show Below w11.heap.size w11 _ from belt)
  rintro e w12 ⟨rfl, b12⟩
  have c12 : Below w11.heap.size w11 w12 := Below.trans belt (b12.mono omh)
  have s12 := c12.size
  have bb12 := H_bb11.out.trans (c12.mono H_bb11.out.size)
  have t12 := H_t11.out.below c12
  have m12 := H_m11.out.below c12
  have j12 := H_j11.out.below c12
  have x12 := H_x11.out.below c12
  have i12 := H_i11.out.below c12
  have ⟨H_b12, H_c12, H_bb12, H_t12, H_m12, H_j12, H_x12, H_i12⟩ := hid8 b12 c12 bb12 t12 m12 j12 x12 i12; clear b12 c12 bb12 t12 m12 j12 x12 i12
  clear v0 v1 v2 v3 v4 v5
  have v0 := (H_j12.out 0 _ rfl).at
  have v1 := (H_j12.out 1 _ rfl).at
  have v2 := (H_j12.out 2 _ rfl).at
  have v3 := (H_j12.out 3 _ rfl).at
  have v4 := (H_j12.out 4 _ rfl).at
  have v5 := (H_j12.out 5 _ rfl).at
  go_upto_region 13 with (fail)
  have z12 := (H_j12.out 0 _ rfl).lt
  have gl : Below w12.heap.size w12 w12 := Below.refl _ _
  refine wp_region_held_drew (S := (fun W => (∀ b o, b < w12.heap.size → W.cell? ⟨b, o, none⟩ = w12.cell? ⟨b, o, none⟩) ∧ Below w12.heap.size w12 W)) (by kernel_rfl) ?_ (fun hHeld => ?_)
  · (try dsimp only); (first | (refine ext_mk ?_; exact belt))
  refine take_at (i := 0) (some 122) rfl rfl (by kernel_rfl) (fun _ _ _ h => h) (by rfl) (v := ?_) ?_ (by assumption) ?_
  rotate_left
  · intro W hSw; (try dsimp only at hSw); go_simp; (try with_reducible rfl)
  (try simp only [apz])
  refine take_at (i := 1) (some 123) rfl rfl (by kernel_rfl) (fun _ _ _ h => h) (by rfl) (v := ?_) ?_ (by assumption) ?_
  rotate_left
  · intro W hSw; (try dsimp only at hSw); go_simp; (try with_reducible rfl)
  (try simp only [apz])
  refine take_at (i := 2) (some 124) rfl rfl (by kernel_rfl) (fun _ _ _ h => h) (by rfl) (v := ?_) ?_ (by assumption) ?_
  rotate_left
  · intro W hSw; (try dsimp only at hSw); go_simp; (try with_reducible rfl)
  (try simp only [apz])
  refine wpAnyH_ready (rs := [3]) (by kernel_rfl) (by simp) ?_
  refine AllReadyH.cons rfl (fun K hK => ?_) AllReadyH.nil
  go_simp
  refine hK.out _ _ ?_ (fun hHeld => ?_)
  · (try dsimp only); (first | (refine ext_mk ?_; exact belt))
  clear hK K
  (try simp only [apz])
  refine wpAnyH_ready (rs := [4]) (by kernel_rfl) (by simp) ?_
  refine AllReadyH.cons rfl (fun K hK => ?_) AllReadyH.nil
  go_simp
  (first | (go_at_call 17; (with_reducible refine (H_sM.out _ _ _ _ _ ?_ ?_).mono ?_); (focus (exact H_i12.out.below (And.right (by assumption : _ ∧ Below w12.heap.size w12 _)))); (focus (exact (ints_lit (w := w12) exI _ rfl).below (Below.refl _ _).drew)); rintro e v13 ⟨rfl, q13, hv13⟩; have b13 : Below w12.heap.size w12 v13 := (by rw [hv13]; exact below_drewN (And.right (by assumption : _ ∧ Below w12.heap.size w12 _)) _)) | (go_at_call 27; (with_reducible refine (H_sC.out _ _ _ ?_ ?_).mono ?_); (focus (exact lists_one (l := exI) (n := 7) rfl H_cap4.out (H_i12.out.below belt) _ (by first | rfl | (simp; done)))); (focus (exact H_t12.out.below (And.right (by assumption : _ ∧ Below w12.heap.size w12 _)))); rintro e w14 ⟨rfl, hbw14⟩; have gw14 := Below.trans (And.right (by assumption : _ ∧ Below w12.heap.size w12 _)) (hbw14.mono (Below.size (And.right (by assumption : _ ∧ Below w12.heap.size w12 _)))); have gsw14 := gw14.size; have hcf := bcell hbw14; have hcw14 := hcf.1; have hfw14 := hcf.2; have hsw14 := hbw14.size; (try simp only [World.size_alloc, World.heap_drewN, heap_drew] at hsw14); clear hbw14 hcf; (try have hzw14 : w12.heap.size < w14.heap.size := by omega)))
  refine hK.out _ _ ?_ (fun hHeld => ?_)
  · (try dsimp only); (first | (refine ext_mk ?_; exact belt))
  clear hK K
  (try simp only [apz])
  refine take_at (i := 5) (some 127) rfl rfl (by kernel_rfl) (fun _ _ _ h => h) (by rfl) (v := ?_) ?_ (by assumption) ?_
  rotate_left
  · intro W hSw; (try dsimp only at hSw); go_simp; (try with_reducible rfl)
  (try simp only [apz])
  refine take_at (i := 6) (some 128) rfl rfl (by kernel_rfl) (fun _ _ _ h => h) (by rfl) (v := ?_) ?_ (by assumption) ?_
  rotate_left
  · intro W hSw; (try dsimp only at hSw); go_simp; (try with_reducible rfl)
  (try simp only [apz])
  refine take_at (i := 7) (some 129) rfl rfl (by kernel_rfl) (fun _ _ _ h => h) (by rfl) (v := ?_) ?_ (by assumption) ?_
  rotate_left
  · intro W hSw; (try dsimp only at hSw); go_simp; (try with_reducible rfl)
  (try simp only [apz])
  refine take_at (i := 8) (some 130) rfl rfl (by kernel_rfl) (fun _ _ _ h => h) (by rfl) (v := ?_) ?_ (by assumption) ?_
  rotate_left
  · intro W hSw; (try dsimp only at hSw); go_simp; (try with_reducible rfl)
  (try simp only [apz])
  refine take_at (i := 9) (some 131) rfl rfl (by kernel_rfl) (fun _ _ _ h => h) (by rfl) (v := ?_) ?_ (by assumption) ?_
  rotate_left
  · intro W hSw; (try dsimp only at hSw); go_simp; (try with_reducible rfl)
  (try simp only [apz])
  refine take_at (i := 10) (some 132) rfl rfl (by kernel_rfl) (fun _ _ _ h => h) (by rfl) (v := ?_) ?_ (by assumption) ?_
  rotate_left
  · intro W hSw; (try dsimp only at hSw); go_simp; (try with_reducible rfl)
  (try simp only [apz])
  refine take_at (i := 11) (some 133) rfl rfl (by kernel_rfl) (fun _ _ _ h => h) (by rfl) (v := ?_) ?_ (by assumption) ?_
  rotate_left
  · intro W hSw; (try dsimp only at hSw); go_simp; (try with_reducible rfl)
  (try simp only [apz])
  refine take_at (i := 12) (some 134) rfl rfl (by kernel_rfl) (fun _ _ _ h => h) (by rfl) (v := ?_) ?_ (by assumption) ?_
  rotate_left
  · intro W hSw; (try dsimp only at hSw); go_simp; (try with_reducible rfl)
  (try simp only [apz])
  refine take_at (i := 13) (some 135) rfl rfl (by kernel_rfl) (fun _ _ _ h => h) (by rfl) (v := ?_) ?_ (by assumption) ?_
  rotate_left
  · intro W hSw; (try dsimp only at hSw); go_simp; (try with_reducible rfl)
  (try simp only [apz])
  refine take_at (i := 14) (some 136) rfl rfl (by kernel_rfl) (fun _ _ _ h => h) (by rfl) (v := ?_) ?_ (by assumption) ?_
  rotate_left
  · intro W hSw; (try dsimp only at hSw); go_simp; (try with_reducible rfl)
  (try simp only [apz])
  refine take_at (i := 15) (some 137) rfl rfl (by kernel_rfl) (fun _ _ _ h => h) (by rfl) (v := ?_) ?_ (by assumption) ?_
  rotate_left
  · intro W hSw; (try dsimp only at hSw); go_simp; (try with_reducible rfl)
  (try simp only [apz])
  refine take_at (i := 16) (some 138) rfl rfl (by kernel_rfl) (fun _ _ _ h => h) (by rfl) (v := ?_) ?_ (by assumption) ?_
  rotate_left
  · intro W hSw; (try dsimp only at hSw); go_simp; (try with_reducible rfl)
  (try simp only [apz])
  refine wpAnyH_ready (rs := [17]) (by kernel_rfl) (by simp) ?_
  refine AllReadyH.cons rfl (fun K hK => ?_) AllReadyH.nil
  go_simp
  refine hK.out _ _ ?_ (fun hHeld => ?_)
  · (try dsimp only); (first | (refine ext_mk ?_; exact belt))
  clear hK K
  (try simp only [apz])
  refine wpAnyH_ready (rs := [18]) (by kernel_rfl) (by simp) ?_
  refine AllReadyH.cons rfl (fun K hK => ?_) AllReadyH.nil
  go_simp
  (first | (go_at_call 17; (with_reducible refine (H_sM.out _ _ _ _ _ ?_ ?_).mono ?_); (focus (exact H_i12.out.below (And.right (by assumption : _ ∧ Below w12.heap.size w12 _)))); (focus (exact (ints_lit (w := w12) exI _ rfl).below (Below.refl _ _).drew)); rintro e v13 ⟨rfl, q13, hv13⟩; have b13 : Below w12.heap.size w12 v13 := (by rw [hv13]; exact below_drewN (And.right (by assumption : _ ∧ Below w12.heap.size w12 _)) _)) | (go_at_call 27; (with_reducible refine (H_sC.out _ _ _ ?_ ?_).mono ?_); (focus (exact lists_one (l := exI) (n := 7) rfl H_cap4.out (H_i12.out.below belt) _ (by first | rfl | (simp; done)))); (focus (exact H_t12.out.below (And.right (by assumption : _ ∧ Below w12.heap.size w12 _)))); rintro e w14 ⟨rfl, hbw14⟩; have gw14 := Below.trans (And.right (by assumption : _ ∧ Below w12.heap.size w12 _)) (hbw14.mono (Below.size (And.right (by assumption : _ ∧ Below w12.heap.size w12 _)))); have gsw14 := gw14.size; have hcf := bcell hbw14; have hcw14 := hcf.1; have hfw14 := hcf.2; have hsw14 := hbw14.size; (try simp only [World.size_alloc, World.heap_drewN, heap_drew] at hsw14); clear hbw14 hcf; (try have hzw14 : w12.heap.size < w14.heap.size := by omega)))
  refine hK.out _ _ ?_ (fun hHeld => ?_)
  · (try dsimp only); (first | (refine ext_mk ?_; exact belt))
  clear hK K
  (try simp only [apz])
  refine take_at (i := 19) (some 141) rfl rfl (by kernel_rfl) (fun _ _ _ h => h) (by rfl) (v := ?_) ?_ (by assumption) ?_
  rotate_left
  · intro W hSw; (try dsimp only at hSw); go_simp; (try with_reducible rfl)
  (try simp only [apz])
  refine take_at (i := 20) (some 142) rfl rfl (by kernel_rfl) (fun _ _ _ h => h) (by rfl) (v := ?_) ?_ (by assumption) ?_
  rotate_left
  · intro W hSw; (try dsimp only at hSw); go_simp; (try with_reducible rfl)
  (try simp only [apz])
  refine take_at (i := 21) (some 0) rfl rfl (by kernel_rfl) (fun _ _ _ h => h) (by rfl) (v := ?_) ?_ (by assumption) ?_
  rotate_left
  · intro W hSw; (try dsimp only at hSw); go_simp; (try with_reducible rfl)
  (try simp only [apz])
  refine wpAnyH_done (by kernel_rfl) ?_ _
  have gF : Below w12.heap.size w12 _ := And.right (by assumption)
  have gG := H_bb12.out.trans (gF.mono H_bb12.out.size)
  have ⟨H_gF, H_gG, H_gl⟩ := hid3 gF gG gl; clear gF gG gl
  go_wp2_with fail
  go_ret
  exact ⟨rfl, H_gG.out⟩
end Go.Proofs.YtmbmejclnagffaaDoor

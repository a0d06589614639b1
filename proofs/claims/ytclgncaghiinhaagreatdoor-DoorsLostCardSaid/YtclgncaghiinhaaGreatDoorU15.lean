/- Contracts of package card: Make, Check. -/
import Derived.Test.YtclgncaghiinhaaGreatDoorU13
import Derived.Test.YtclgncaghiinhaaGreatDoorU14
set_option linter.unusedSimpArgs false
set_option linter.unusedVariables false
set_option maxRecDepth 100000
namespace Go.Proofs.YtclgncaghiinhaaGreatDoor
open Go.RowKit
section
open Go.RowKit Go.Maps
/-- a card with a signature -/
def Crd.sig (c : Crd) (e s : Int) : Crd := ⟨c.i, c.k, c.d, c.n, c.f, c.u, c.l, e, s⟩
theorem CFit.sig {c : Crd} (h : CFit c) {e s : Int} (he : -9223372036854775808 ≤ e ∧ e ≤ 9223372036854775807) (hs : -9223372036854775808 ≤ s ∧ s ≤ 9223372036854775807) : CFit (c.sig e s) := ⟨h.i, h.k, h.d, h.n, h.f, h.u, h.l, he, hs⟩
theorem msg_sig (c : Crd) (e s : Int) : (c.sig e s).msg = c.msg := rfl
theorem sig_int {s o : Nat} {l : List Int} : (-9223372036854775808 ≤ ((sigE s o l : Nat) : Int) ∧ ((sigE s o l : Nat) : Int) ≤ 9223372036854775807) ∧ -9223372036854775808 ≤ ((sigS s o l : Nat) : Int) ∧ ((sigS s o l : Nat) : Int) ≤ 9223372036854775807 := by
 have h1 := sigE_lt s o l
 have h2 := sigS_lt s o l
 have : QQ = 1073741789 := rfl
 omega
set_option maxHeartbeats 4000000 in
theorem cmake_yes (c : Crd) (s o : Nat) (hc : CFit c) (hv : cvB (c.sig 0 0) = true) (hs : wthB s 1 = true) (ho : wthB o 1 = true) (w : World) (ht : Tab w) :
  Calls Tryz.prog 18 #[.agg c.cells.toArray, .int .i64 s, .int .i64 o] w fun e w' => e = .returned (.tuple #[.agg (c.sig (sigE s o c.msg) (sigS s o c.msg)).cells.toArray, .int .i64 0]) ∧ Below w.heap.size w w' := by
 have hc0 : CFit (c.sig 0 0) := hc.sig (by omega) (by omega)
 have q1 := fun W => cwrong_any (c.sig 0 0) hc0 W
 have q2 := fun W => cmessage_any (c.sig 0 0) W
 have hfm := hc.msg
 have q3 := fun W X (h1 : IntsAt W X .i64 c.msg) h2 => sign_yes s o X 7 7 c.msg rfl W hs ho h1 (by omega) hfm h2
 rw [hv] at q1
 unfold NewInts7 at q2
 rw [msg_sig] at q2
 unfold Crd.sig Crd.cells at q1 q2 ⊢
 generalize sigE s o c.msg = E at *
 generalize sigS s o c.msg = S at *
 generalize c.msg = M at *
 have ⟨Hhc, Hhv, Hhs, Hho, Hht, Hhc0, Hq1, Hq2⟩ := hid8 hc hv hs ho ht hc0 q1 q2; clear hc hv hs ho ht hc0 q1 q2; have ⟨Hq3, Hhfm⟩ := hid2 q3 hfm; clear q3 hfm
 go_enter Tryz.func18, Tryz.ntmps18
 go_wp2_with fail
 refine (Hq1.out _).mono ?_; rintro e w2 ⟨rfl, hbw2⟩
 have hsw2 := hbw2.size; (try simp only [World.size_alloc, World.heap_drewN, World.size_setCell, heap_drew] at hsw2)
 have gw2 : Below w.heap.size w w2 := belt
 obtain ⟨kw2x0x0, fw2x0x0, kw2x0x1, fw2x0x1, kw2x0x2, fw2x0x2, kw2x0x3, fw2x0x3, kw2x0x4, fw2x0x4, kw2x0x5, fw2x0x5, kw2x0x6, fw2x0x6, kw2x0x7, fw2x0x7, kw2x0x8, fw2x0x8⟩ := kf9 hbw2 w.heap.size
 have zw2x0 : w.heap.size < w2.heap.size := by omega
 obtain ⟨kw2x1x0, fw2x1x0, kw2x1x1, fw2x1x1, kw2x1x2, fw2x1x2, kw2x1x3, fw2x1x3, kw2x1x4, fw2x1x4, kw2x1x5, fw2x1x5, kw2x1x6, fw2x1x6, kw2x1x7, fw2x1x7, kw2x1x8, fw2x1x8⟩ := kf9 hbw2 (w.heap.size + 1)
 have zw2x1 : w.heap.size + 1 < w2.heap.size := by omega
 have Hhbw2 := Lib.hid hbw2; clear hbw2
 go_wp2_with fail
 refine (Hq2.out _).mono ?_; rintro e w3 ⟨b3, rfl, hi3, hlo3, hbw3⟩
 have hsw3 := hbw3.size; (try simp only [World.size_alloc, World.heap_drewN, World.size_setCell, heap_drew] at hsw3)
 have gw3 : Below w.heap.size w w3 := belt
 obtain ⟨kw3x0x0, fw3x0x0, kw3x0x1, fw3x0x1, kw3x0x2, fw3x0x2, kw3x0x3, fw3x0x3, kw3x0x4, fw3x0x4, kw3x0x5, fw3x0x5, kw3x0x6, fw3x0x6, kw3x0x7, fw3x0x7, kw3x0x8, fw3x0x8⟩ := kf9 hbw3 w.heap.size
 have zw3x0 : w.heap.size < w3.heap.size := by omega
 obtain ⟨kw3x1x0, fw3x1x0, kw3x1x1, fw3x1x1, kw3x1x2, fw3x1x2, kw3x1x3, fw3x1x3, kw3x1x4, fw3x1x4, kw3x1x5, fw3x1x5, kw3x1x6, fw3x1x6, kw3x1x7, fw3x1x7, kw3x1x8, fw3x1x8⟩ := kf9 hbw3 (w.heap.size + 1)
 have zw3x1 : w.heap.size + 1 < w3.heap.size := by omega
 have Hhbw3 := Lib.hid hbw3; clear hbw3
 clear gw2 kw2x0x0 fw2x0x0 kw2x0x1 fw2x0x1 kw2x0x2 fw2x0x2 kw2x0x3 fw2x0x3 kw2x0x4 fw2x0x4 kw2x0x5 fw2x0x5 kw2x0x6 fw2x0x6 kw2x0x7 fw2x0x7 kw2x0x8 fw2x0x8 kw2x1x0 fw2x1x0 kw2x1x1 fw2x1x1 kw2x1x2 fw2x1x2 kw2x1x3 fw2x1x3 kw2x1x4 fw2x1x4 kw2x1x5 fw2x1x5 kw2x1x6 fw2x1x6 kw2x1x7 fw2x1x7 kw2x1x8 fw2x1x8
 have t3 := Hht.out.below gw3
 have p3 := Hq3.out _ _ hi3 t3
 have ⟨Hhi3, Ht3, Hp3⟩ := hid3 hi3 t3 p3; clear hi3 t3 p3
 go_wp2_with fail
 refine (Hp3.out).mono ?_; rintro e w4 ⟨rfl, hbw4⟩
 have hsw4 := hbw4.size; (try simp only [World.size_alloc, World.heap_drewN, World.size_setCell, heap_drew] at hsw4)
 have gw4 : Below w.heap.size w w4 := belt
 obtain ⟨kw4x0x0, fw4x0x0, kw4x0x1, fw4x0x1, kw4x0x2, fw4x0x2, kw4x0x3, fw4x0x3, kw4x0x4, fw4x0x4, kw4x0x5, fw4x0x5, kw4x0x6, fw4x0x6, kw4x0x7, fw4x0x7, kw4x0x8, fw4x0x8⟩ := kf9 hbw4 w.heap.size
 have zw4x0 : w.heap.size < w4.heap.size := by omega
 obtain ⟨kw4x1x0, fw4x1x0, kw4x1x1, fw4x1x1, kw4x1x2, fw4x1x2, kw4x1x3, fw4x1x3, kw4x1x4, fw4x1x4, kw4x1x5, fw4x1x5, kw4x1x6, fw4x1x6, kw4x1x7, fw4x1x7, kw4x1x8, fw4x1x8⟩ := kf9 hbw4 (w.heap.size + 1)
 have zw4x1 : w.heap.size + 1 < w4.heap.size := by omega
 have Hhbw4 := Lib.hid hbw4; clear hbw4
 clear gw3 kw3x0x0 fw3x0x0 kw3x0x1 fw3x0x1 kw3x0x2 fw3x0x2 kw3x0x3 fw3x0x3 kw3x0x4 fw3x0x4 kw3x0x5 fw3x0x5 kw3x0x6 fw3x0x6 kw3x0x7 fw3x0x7 kw3x0x8 fw3x0x8 kw3x1x0 fw3x1x0 kw3x1x1 fw3x1x1 kw3x1x2 fw3x1x2 kw3x1x3 fw3x1x3 kw3x1x4 fw3x1x4 kw3x1x5 fw3x1x5 kw3x1x6 fw3x1x6 kw3x1x7 fw3x1x7 kw3x1x8 fw3x1x8
 go_upto_region 8 with (fail)
 obtain ⟨w5, hew5⟩ : ∃ W : World, ((w4.setCell ⟨w.heap.size, 7, none⟩ (.int .i64 E)).setCell ⟨w.heap.size, 8, none⟩ (.int .i64 S)).alloc (.cells #[.int .i64 E, .int .i64 S] 26) = W := ⟨_, rfl⟩
 rw [hew5]
 have hsw5 := congrArg (fun W : World => W.heap.size) hew5
 simp only [World.size_alloc, World.heap_drewN, World.size_setCell, heap_drew] at hsw5
 have Hhew5 := Lib.hid hew5; clear hew5
 have gw5 : Below w.heap.size w w5 := by rw [← Hhew5.out]; exact belt
 obtain ⟨kw5x0x0, fw5x0x0, kw5x0x1, fw5x0x1, kw5x0x2, fw5x0x2, kw5x0x3, fw5x0x3, kw5x0x4, fw5x0x4, kw5x0x5, fw5x0x5, kw5x0x6, fw5x0x6, kw5x0x7, fw5x0x7, kw5x0x8, fw5x0x8⟩ := nf9 Hhew5.out w.heap.size
 have zw5x0 : w.heap.size < w5.heap.size := by omega
 obtain ⟨kw5x1x0, fw5x1x0, kw5x1x1, fw5x1x1, kw5x1x2, fw5x1x2, kw5x1x3, fw5x1x3, kw5x1x4, fw5x1x4, kw5x1x5, fw5x1x5, kw5x1x6, fw5x1x6, kw5x1x7, fw5x1x7, kw5x1x8, fw5x1x8⟩ := nf9 Hhew5.out (w.heap.size + 1)
 have zw5x1 : w.heap.size + 1 < w5.heap.size := by omega
 clear gw4 kw4x0x0 fw4x0x0 kw4x0x1 fw4x0x1 kw4x0x2 fw4x0x2 kw4x0x3 fw4x0x3 kw4x0x4 fw4x0x4 kw4x0x5 fw4x0x5 kw4x0x6 fw4x0x6 kw4x0x7 fw4x0x7 kw4x0x8 fw4x0x8 kw4x1x0 fw4x1x0 kw4x1x1 fw4x1x1 kw4x1x2 fw4x1x2 kw4x1x3 fw4x1x3 kw4x1x4 fw4x1x4 kw4x1x5 fw4x1x5 kw4x1x6 fw4x1x6 kw4x1x7 fw4x1x7 kw4x1x8 fw4x1x8
 have gw6 : Below w.heap.size w (putL w5 (w.heap.size + 1) 0 [.int .i64 c.i, .int .i64 c.k, .int .i64 c.d, .int .i64 c.n, .int .i64 c.f, .int .i64 c.u, .int .i64 c.l, .int .i64 E, .int .i64 S]) := putL_below (by omega) _ _ _ gw5
 simp only [putL, Nat.reduceAdd] at gw6
 have Hgw6 := Lib.hid gw6; clear gw6
 go_wp2_with fail
 refine bodyPost_ret (v := .tuple #[.agg #[.int .i64 c.i, .int .i64 c.k, .int .i64 c.d, .int .i64 c.n, .int .i64 c.f, .int .i64 c.u, .int .i64 c.l, .int .i64 E, .int .i64 S], .int .i64 0]) (by simp [results, Tryz.results18, go_sem, *]) rfl ⟨rfl, Hgw6.out⟩
/-- Make where it must not -/
def mayMk (c : Crd) (s o : Int) : Bool := cvB (c.sig 0 0) && (wthB s 1 && wthB o 1)
set_option maxHeartbeats 4000000 in
theorem cmake_no (c : Crd) (s o : Int) (hc : CFit c) (h : mayMk c s o = false) (w : World) :
  Calls Tryz.prog 18 #[.agg c.cells.toArray, .int .i64 s, .int .i64 o] w fun e w' => e = .returned (.tuple #[.agg Crd.zero.cells.toArray, .int .i64 1]) ∧ Below w.heap.size w w' := by
 unfold mayMk at h
 have hc0 : CFit (c.sig 0 0) := hc.sig (by omega) (by omega)
 have q1 := fun W => cwrong_any (c.sig 0 0) hc0 W
 cases hv : cvB (c.sig 0 0) with
 | false =>
  rw [hv] at q1
  unfold Crd.sig Crd.cells at q1
  unfold Crd.cells Crd.zero
  have ⟨Hhc, Hhv, Hh, Hhc0, Hq1⟩ := hid5 hc hv h hc0 q1; clear hc hv h hc0 q1
  go_enter Tryz.func18, Tryz.ntmps18
  go_wp2_with fail
  refine (Hq1.out _).mono ?_; rintro e w2 ⟨rfl, hbw2⟩
  have hsw2 := hbw2.size; (try simp only [World.size_alloc, World.heap_drewN, World.size_setCell, heap_drew] at hsw2)
  have gw2 : Below w.heap.size w w2 := belt
  obtain ⟨kw2x0x0, fw2x0x0, kw2x0x1, fw2x0x1, kw2x0x2, fw2x0x2, kw2x0x3, fw2x0x3, kw2x0x4, fw2x0x4, kw2x0x5, fw2x0x5, kw2x0x6, fw2x0x6, kw2x0x7, fw2x0x7, kw2x0x8, fw2x0x8⟩ := kf9 hbw2 w.heap.size
  have zw2x0 : w.heap.size < w2.heap.size := by omega
  obtain ⟨kw2x1x0, fw2x1x0, kw2x1x1, fw2x1x1, kw2x1x2, fw2x1x2, kw2x1x3, fw2x1x3, kw2x1x4, fw2x1x4, kw2x1x5, fw2x1x5, kw2x1x6, fw2x1x6, kw2x1x7, fw2x1x7, kw2x1x8, fw2x1x8⟩ := kf9 hbw2 (w.heap.size + 1)
  have zw2x1 : w.heap.size + 1 < w2.heap.size := by omega
  have Hhbw2 := Lib.hid hbw2; clear hbw2
  go_wp2_with fail
  have gw6 : Below w.heap.size w (putL w2 (w.heap.size + 1) 0 [.int .i64 0, .int .i64 0, .int .i64 0, .int .i64 0, .int .i64 0, .int .i64 0, .int .i64 0, .int .i64 0, .int .i64 0]) := putL_below (by omega) _ _ _ gw2
  simp only [putL, Nat.reduceAdd] at gw6
  have Hgw6 := Lib.hid gw6; clear gw6
  refine bodyPost_ret (v := .tuple #[.agg #[.int .i64 0, .int .i64 0, .int .i64 0, .int .i64 0, .int .i64 0, .int .i64 0, .int .i64 0, .int .i64 0, .int .i64 0], .int .i64 1]) (by simp [results, Tryz.results18, go_sem, *]) rfl ⟨rfl, Hgw6.out⟩
 | true =>
  rw [hv, Bool.true_and] at h
  rw [hv] at q1
  have q2 := fun W => cmessage_any (c.sig 0 0) W
  unfold NewInts7 at q2
  rw [msg_sig] at q2
  have q3 := fun W X => sign_no s o X 7 7 W h
  unfold Crd.sig Crd.cells at q1 q2
  unfold Crd.cells Crd.zero
  generalize c.msg = M at *
  have ⟨Hhc, Hhv, Hh, Hhc0, Hq1, Hq2, Hq3⟩ := hid7 hc hv h hc0 q1 q2 q3; clear hc hv h hc0 q1 q2 q3
  go_enter Tryz.func18, Tryz.ntmps18
  go_wp2_with fail
  refine (Hq1.out _).mono ?_; rintro e w2 ⟨rfl, hbw2⟩
  have hsw2 := hbw2.size; (try simp only [World.size_alloc, World.heap_drewN, World.size_setCell, heap_drew] at hsw2)
  have gw2 : Below w.heap.size w w2 := belt
  obtain ⟨kw2x0x0, fw2x0x0, kw2x0x1, fw2x0x1, kw2x0x2, fw2x0x2, kw2x0x3, fw2x0x3, kw2x0x4, fw2x0x4, kw2x0x5, fw2x0x5, kw2x0x6, fw2x0x6, kw2x0x7, fw2x0x7, kw2x0x8, fw2x0x8⟩ := kf9 hbw2 w.heap.size
  have zw2x0 : w.heap.size < w2.heap.size := by omega
  obtain ⟨kw2x1x0, fw2x1x0, kw2x1x1, fw2x1x1, kw2x1x2, fw2x1x2, kw2x1x3, fw2x1x3, kw2x1x4, fw2x1x4, kw2x1x5, fw2x1x5, kw2x1x6, fw2x1x6, kw2x1x7, fw2x1x7, kw2x1x8, fw2x1x8⟩ := kf9 hbw2 (w.heap.size + 1)
  have zw2x1 : w.heap.size + 1 < w2.heap.size := by omega
  have Hhbw2 := Lib.hid hbw2; clear hbw2
  go_wp2_with fail
  refine (Hq2.out _).mono ?_; rintro e w3 ⟨b3, rfl, hi3, hlo3, hbw3⟩
  have hsw3 := hbw3.size; (try simp only [World.size_alloc, World.heap_drewN, World.size_setCell, heap_drew] at hsw3)
  have gw3 : Below w.heap.size w w3 := belt
  obtain ⟨kw3x0x0, fw3x0x0, kw3x0x1, fw3x0x1, kw3x0x2, fw3x0x2, kw3x0x3, fw3x0x3, kw3x0x4, fw3x0x4, kw3x0x5, fw3x0x5, kw3x0x6, fw3x0x6, kw3x0x7, fw3x0x7, kw3x0x8, fw3x0x8⟩ := kf9 hbw3 w.heap.size
  have zw3x0 : w.heap.size < w3.heap.size := by omega
  obtain ⟨kw3x1x0, fw3x1x0, kw3x1x1, fw3x1x1, kw3x1x2, fw3x1x2, kw3x1x3, fw3x1x3, kw3x1x4, fw3x1x4, kw3x1x5, fw3x1x5, kw3x1x6, fw3x1x6, kw3x1x7, fw3x1x7, kw3x1x8, fw3x1x8⟩ := kf9 hbw3 (w.heap.size + 1)
  have zw3x1 : w.heap.size + 1 < w3.heap.size := by omega
  have Hhbw3 := Lib.hid hbw3; clear hbw3
  clear gw2 kw2x0x0 fw2x0x0 kw2x0x1 fw2x0x1 kw2x0x2 fw2x0x2 kw2x0x3 fw2x0x3 kw2x0x4 fw2x0x4 kw2x0x5 fw2x0x5 kw2x0x6 fw2x0x6 kw2x0x7 fw2x0x7 kw2x0x8 fw2x0x8 kw2x1x0 fw2x1x0 kw2x1x1 fw2x1x1 kw2x1x2 fw2x1x2 kw2x1x3 fw2x1x3 kw2x1x4 fw2x1x4 kw2x1x5 fw2x1x5 kw2x1x6 fw2x1x6 kw2x1x7 fw2x1x7 kw2x1x8 fw2x1x8 hi3
  go_wp2_with fail
  refine (Hq3.out _ _).mono ?_; rintro e w4 ⟨rfl, hbw4⟩
  have hsw4 := hbw4.size; (try simp only [World.size_alloc, World.heap_drewN, World.size_setCell, heap_drew] at hsw4)
  have gw4 : Below w.heap.size w w4 := belt
  obtain ⟨kw4x0x0, fw4x0x0, kw4x0x1, fw4x0x1, kw4x0x2, fw4x0x2, kw4x0x3, fw4x0x3, kw4x0x4, fw4x0x4, kw4x0x5, fw4x0x5, kw4x0x6, fw4x0x6, kw4x0x7, fw4x0x7, kw4x0x8, fw4x0x8⟩ := kf9 hbw4 w.heap.size
  have zw4x0 : w.heap.size < w4.heap.size := by omega
  obtain ⟨kw4x1x0, fw4x1x0, kw4x1x1, fw4x1x1, kw4x1x2, fw4x1x2, kw4x1x3, fw4x1x3, kw4x1x4, fw4x1x4, kw4x1x5, fw4x1x5, kw4x1x6, fw4x1x6, kw4x1x7, fw4x1x7, kw4x1x8, fw4x1x8⟩ := kf9 hbw4 (w.heap.size + 1)
  have zw4x1 : w.heap.size + 1 < w4.heap.size := by omega
  have Hhbw4 := Lib.hid hbw4; clear hbw4
  clear gw3 kw3x0x0 fw3x0x0 kw3x0x1 fw3x0x1 kw3x0x2 fw3x0x2 kw3x0x3 fw3x0x3 kw3x0x4 fw3x0x4 kw3x0x5 fw3x0x5 kw3x0x6 fw3x0x6 kw3x0x7 fw3x0x7 kw3x0x8 fw3x0x8 kw3x1x0 fw3x1x0 kw3x1x1 fw3x1x1 kw3x1x2 fw3x1x2 kw3x1x3 fw3x1x3 kw3x1x4 fw3x1x4 kw3x1x5 fw3x1x5 kw3x1x6 fw3x1x6 kw3x1x7 fw3x1x7 kw3x1x8 fw3x1x8
  go_upto_region 6 with (fail)
  have gw6 : Below w.heap.size w ((putL w4 (w.heap.size + 1) 0 [.int .i64 0, .int .i64 0, .int .i64 0, .int .i64 0, .int .i64 0, .int .i64 0, .int .i64 0, .int .i64 0, .int .i64 0]).alloc (.cells #[.int .i64 0, .int .i64 0] 26)) := (putL_below (by omega) _ _ _ gw4).alloc (by rw [putL_size]; exact gw4.size) _
  simp only [putL, Nat.reduceAdd] at gw6
  have Hgw6 := Lib.hid gw6; clear gw6
  go_wp2_with fail
  refine bodyPost_ret (v := .tuple #[.agg #[.int .i64 0, .int .i64 0, .int .i64 0, .int .i64 0, .int .i64 0, .int .i64 0, .int .i64 0, .int .i64 0, .int .i64 0], .int .i64 1]) (by simp [results, Tryz.results18, go_sem, *]) rfl ⟨rfl, Hgw6.out⟩
/-- Check, whatever it is called with -/
def chkB (c : Crd) (p : Int) : Bool := cvB c && memZ p && rightB p.toNat c.e.toNat c.s.toNat c.msg
def chkE (c : Crd) (p : Int) : Int := if (cvB c && memZ p) = true then 0 else 1
set_option maxHeartbeats 4000000 in
theorem ccheck_any (c : Crd) (p : Int) (hc : CFit c) (w : World) (ht : Tab w) :
  Calls Tryz.prog 39 #[.agg c.cells.toArray, .int .i64 p] w fun e w' => e = .returned (.tuple #[.bool (chkB c p), .int .i64 (chkE c p)]) ∧ Below w.heap.size w w' := by
 have q1 := fun W => cwrong_any c hc W
 cases hv : cvB c with
 | false =>
  have e1 : chkB c p = false := by simp [chkB, hv]
  have e2 : chkE c p = 1 := by simp [chkE, hv]
  rw [hv] at q1
  rw [e1, e2]
  unfold Crd.cells at q1 ⊢
  have ⟨Hhc, Hht, Hq1, Hhv, He1, He2⟩ := hid6 hc ht q1 hv e1 e2; clear hc ht q1 hv e1 e2
  go_enter Tryz.func39, Tryz.ntmps39
  go_wp2_with fail
  refine (Hq1.out _).mono ?_; rintro e w2 ⟨rfl, hbw2⟩
  have hsw2 := hbw2.size; (try simp only [World.size_alloc, World.heap_drewN, World.size_setCell, heap_drew] at hsw2)
  have gw2 : Below w.heap.size w w2 := belt
  obtain ⟨kw2x0x0, kw2x0x1, kw2x0x2, kw2x0x3, kw2x0x4, kw2x0x5, kw2x0x6, kw2x0x7, kw2x0x8⟩ := kc9 hbw2 w.heap.size
  have zw2x0 : w.heap.size < w2.heap.size := by omega
  have Hhbw2 := Lib.hid hbw2; clear hbw2
  go_wp2_with fail
  go_ret2
  exact ⟨rfl, gw2⟩
 | true =>
  rw [hv] at q1
  have q2 := fun W => cmessage_any c W
  unfold NewInts7 at q2
  have hfm := hc.msg
  have hb := (cvB_iff.1 hv).1
  have he : wthB c.e 0 = true := wthB_iff.2 (by obtain ⟨h1, h2, _⟩ := hb; omega)
  have hs : wthB c.s 0 = true := wthB_iff.2 (by obtain ⟨h1, h2, _⟩ := hb; omega)
  have post : ∀ W X, IntsAt W X .i64 c.msg → Tab W → Calls Tryz.prog 75 #[.int .i64 p, .agg #[.int .i64 c.e, .int .i64 c.s], .slice X 7 7] W fun e w' => e = .returned (.tuple #[.bool (chkB c p), .int .i64 (chkE c p)]) ∧ Below W.heap.size W w' := fun W X h1 h2 => by
   cases hm : memZ p with
   | false =>
    have e1 : chkB c p = false := by simp [chkB, hm]
    have e2 : chkE c p = 1 := by simp [chkE, hm]
    rw [e1, e2]
    exact verify_no p c.e c.s X 7 7 W (by simp [okB, hm])
   | true =>
    obtain ⟨E, hE⟩ : ∃ n : Nat, c.e = n := ⟨c.e.toNat, by obtain ⟨h1, h2, _⟩ := hb; omega⟩
    obtain ⟨S, hS⟩ : ∃ n : Nat, c.s = n := ⟨c.s.toNat, by obtain ⟨h1, h2, _⟩ := hb; omega⟩
    obtain ⟨P, hP⟩ : ∃ n : Nat, p = n := ⟨p.toNat, by have := memZ_iff.1 hm; omega⟩
    have e1 : chkB c p = rightB P E S c.msg := by rw [chkB, hv, hm, hE, hS, hP]; rfl
    have e2 : chkE c p = 0 := by simp [chkE, hv, hm]
    rw [e1, e2, hE, hS, hP]
    exact verify_yes P E S X 7 7 c.msg rfl W (by rw [← hP]; exact hm) (by rw [← hE]; exact he) (by rw [← hS]; exact hs) h1 (by omega) hfm h2
  generalize chkB c p = R at *
  generalize chkE c p = EE at *
  generalize c.msg = M at *
  unfold Crd.cells at q1 q2 ⊢
  have ⟨Hhc, Hht, Hq1, Hq2, Hhv, Hhfm, Hhb, Hhe⟩ := hid8 hc ht q1 q2 hv hfm hb he; clear hc ht q1 q2 hv hfm hb he; have ⟨Hhs, Hpost⟩ := hid2 hs post; clear hs post
  go_enter Tryz.func39, Tryz.ntmps39
  go_wp2_with fail
  refine (Hq1.out _).mono ?_; rintro e w2 ⟨rfl, hbw2⟩
  have hsw2 := hbw2.size; (try simp only [World.size_alloc, World.heap_drewN, World.size_setCell, heap_drew] at hsw2)
  have gw2 : Below w.heap.size w w2 := belt
  obtain ⟨kw2x0x0, kw2x0x1, kw2x0x2, kw2x0x3, kw2x0x4, kw2x0x5, kw2x0x6, kw2x0x7, kw2x0x8⟩ := kc9 hbw2 w.heap.size
  have zw2x0 : w.heap.size < w2.heap.size := by omega
  have Hhbw2 := Lib.hid hbw2; clear hbw2
  have t2 := Hht.out.below gw2
  have Ht2 := Lib.hid t2; clear t2
  go_wp2_with fail
  go_region_held3 (fun W => (∀ b o, b < w2.heap.size → W.cell? ⟨b, o, none⟩ = w2.cell? ⟨b, o, none⟩) ∧ Below w2.heap.size w2 W) (first | (refine ext_mk ?_; exact belt)) (first | ((go_at_call 49; (with_reducible refine (Hq2.out _).mono ?_); rintro e w3 ⟨b3, rfl, hi3, hlo3, hbw3⟩; have gw3 := Below.trans (And.right (by assumption : _ ∧ Below w2.heap.size w2 _)) (hbw3.mono (Below.size (And.right (by assumption : _ ∧ Below w2.heap.size w2 _)))); have gsw3 := gw3.size; have hcf := bcell hbw3; have hcw3 := hcf.1; have hfw3 := hcf.2; have hsw3 := hbw3.size; (try simp only [World.size_alloc, World.heap_drewN, heap_drew] at hsw3); clear hbw3 hcf; (try have hzw3 : w2.heap.size < w3.heap.size := by omega))) | (go_at_call 75; (with_reducible refine (Hpost.out _ _ hi3 ?_).mono ?_); (focus (exact Ht2.out.below (And.right (by assumption : _ ∧ Below w2.heap.size w2 _)))); rintro e w4 ⟨rfl, hbw4⟩; have gw4 := Below.trans (And.right (by assumption : _ ∧ Below w2.heap.size w2 _)) (hbw4.mono (Below.size (And.right (by assumption : _ ∧ Below w2.heap.size w2 _)))); have gsw4 := gw4.size; have hcf := bcell hbw4; have hcw4 := hcf.1; have hfw4 := hcf.2; have hsw4 := hbw4.size; (try simp only [World.size_alloc, World.heap_drewN, heap_drew] at hsw4); clear hbw4 hcf; (try have hzw4 : w2.heap.size < w4.heap.size := by omega)))
  all_goals
   have gF : Below w2.heap.size w2 _ := And.right (by assumption)
   go_wp2_with fail
   go_ret2
   exact ⟨rfl, gw2.trans (gF.mono gw2.size)⟩
end
end Go.Proofs.YtclgncaghiinhaaGreatDoor

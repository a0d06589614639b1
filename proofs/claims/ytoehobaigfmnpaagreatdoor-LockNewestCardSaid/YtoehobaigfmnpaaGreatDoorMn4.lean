/- The walk of LockNewest. -/
import Derived.Test.YtoehobaigfmnpaaGreatDoorChecked
import Derived.WalkKit
import Derived.WalkSpells
import Derived.WalkLawsBesides
import Derived.Deep.QuietTactic
import Derived.BigQuiet
import Derived.BigGuardPart
import Derived.Lib.Hide
import Derived.Below
import Derived.IntWalk
import Derived.Laws.Rows
import Derived.OneCell
import Derived.Outline
import Derived.Deep.RegionHeld3
import Derived.Deep.RegionWith
import Derived.Maps.AppendAt
import Derived.Deep.AppendLies
import Derived.Laws.OwnMore
import Derived.OwnWalk
import Derived.Laws.BitsAllLaws
import Derived.Lib.ItoaNum
import Derived.Lib.ItoaLen
import Derived.Shelf.Small.Wraps
import Derived.Shelf.Strconv.Itoa0
import Derived.Shelf.Strconv.Itoa1
import Derived.Shelf.LaysM
import Derived.Shelf.Strconv.Itoa2
import Derived.Shelf.Strconv.Itoa3
import Derived.Shelf.Slices.Turned
import Derived.Shelf.Slices.Reverse
import Derived.Ground.Names2Prog
import Derived.Shelf.Slices.Clone
import Derived.Shelf.Slices.SearchI
import Derived.Shelf.Slices.Cells
import Derived.Shelf.Slices.Empties
import Derived.Ground.SlgnProg
import Derived.Shelf.SlicesE.Clone
import Derived.Test.YtoehobaigfmnpaaGreatDoorProg
import Derived.Lib.AppendIntMem
import Derived.Lib.OthersKept
import Derived.Lib.AppendStr
import Derived.Laws.BytesArg
import Derived.Lib.Strings
import Derived.Lib.SlBytesConst
import Derived.StillTailTactics
import Derived.ProofKit
import Derived.OpenShut
import Derived.ChangeOld
import Derived.Deep.Matrix
import Derived.DataShut
import Derived.SizedLaws
import Derived.Deep.Cut
import Derived.Deep.Slices
import Derived.Maps.OwnSet
import Derived.Maps.OwnOps
import Derived.Deep.CutRange
import Derived.DeepKeys
import Derived.Test.YtoehobaigfmnpaaGreatDoorMo1
import Derived.Test.YtoehobaigfmnpaaGreatDoorMo2
import Derived.Test.YtoehobaigfmnpaaGreatDoorMo3
import Derived.Test.YtoehobaigfmnpaaGreatDoorMo4
import Derived.Test.YtoehobaigfmnpaaGreatDoorMo5
import Derived.Test.YtoehobaigfmnpaaGreatDoorMo6
import Derived.Test.YtoehobaigfmnpaaGreatDoorMo7
import Derived.Test.YtoehobaigfmnpaaGreatDoorMo8
import Derived.Test.YtoehobaigfmnpaaGreatDoorMo9
import Derived.Test.YtoehobaigfmnpaaGreatDoorMo10
import Derived.Test.YtoehobaigfmnpaaGreatDoorMo11
import Derived.Test.YtoehobaigfmnpaaGreatDoorMo12
import Derived.Test.YtoehobaigfmnpaaGreatDoorMo13
import Derived.Test.YtoehobaigfmnpaaGreatDoorMo14
import Derived.Test.YtoehobaigfmnpaaGreatDoorMo15
import Derived.Test.YtoehobaigfmnpaaGreatDoorMo16
import Derived.Test.YtoehobaigfmnpaaGreatDoorMo17
import Derived.Test.YtoehobaigfmnpaaGreatDoorMo18
import Derived.Test.YtoehobaigfmnpaaGreatDoorMo19
import Derived.Test.YtoehobaigfmnpaaGreatDoorMo20
import Derived.Test.YtoehobaigfmnpaaGreatDoorMo21
import Derived.Test.YtoehobaigfmnpaaGreatDoorMo22
import Derived.Test.YtoehobaigfmnpaaGreatDoorMo23
import Derived.Test.YtoehobaigfmnpaaGreatDoorMo24
import Derived.Test.YtoehobaigfmnpaaGreatDoorMo25
import Derived.Test.YtoehobaigfmnpaaGreatDoorMo26
import Derived.Test.YtoehobaigfmnpaaGreatDoorMo27
import Derived.Test.YtoehobaigfmnpaaGreatDoorMo28
import Derived.Test.YtoehobaigfmnpaaGreatDoorMo29
import Derived.Test.YtoehobaigfmnpaaGreatDoorMo30
import Derived.Test.YtoehobaigfmnpaaGreatDoorMo31
import Derived.Test.YtoehobaigfmnpaaGreatDoorMo32
import Derived.Test.YtoehobaigfmnpaaGreatDoorMo33
import Derived.Test.YtoehobaigfmnpaaGreatDoorMo34
import Derived.Test.YtoehobaigfmnpaaGreatDoorMo35
import Derived.Test.YtoehobaigfmnpaaGreatDoorMo36
import Derived.Test.YtoehobaigfmnpaaGreatDoorMo37
import Derived.Test.YtoehobaigfmnpaaGreatDoorMo38
import Derived.Test.YtoehobaigfmnpaaGreatDoorMo39
import Derived.Test.YtoehobaigfmnpaaGreatDoorMo40
import Derived.Test.YtoehobaigfmnpaaGreatDoorMo41
import Derived.Test.YtoehobaigfmnpaaGreatDoorMo42
import Derived.Test.YtoehobaigfmnpaaGreatDoorMo43
import Derived.Test.YtoehobaigfmnpaaGreatDoorMo44
import Derived.Test.YtoehobaigfmnpaaGreatDoorMo45
import Derived.Test.YtoehobaigfmnpaaGreatDoorMo46
import Derived.Test.YtoehobaigfmnpaaGreatDoorMn1
import Derived.Test.YtoehobaigfmnpaaGreatDoorMn3
set_option linter.unusedSimpArgs false
set_option linter.unusedVariables false
set_option maxRecDepth 100000
namespace Go.Proofs.YtoehobaigfmnpaaGreatDoor
open Go.RowKit
set_option maxHeartbeats 16000000 in
theorem lockNewest_walk (l : Lk) (A : Option Addr) (n p : Nat) (B : Option Addr) (m q : Nat) (c d : Crd) (t u : Int) (w : World) (hx : SlotArg w A n p l.x) (hy : SlotArg w B m q l.y) (hl : LFit l) (hc : CFit c) (hd : CFit d) (hti : (Lit.int .i64 t).wf = true) (hui : (Lit.int .i64 u).wf = true) (ht : Tab w) :
    Calls Tryz.prog 5 #[.agg (l.cells A n p B m q).toArray, .agg c.cells.toArray, .agg d.cells.toArray, .int .i64 t, .int .i64 u] w fun e w' => e = .returned (.bool true) ∧ Below w.heap.size w w' := by
  obtain ⟨w0, hw0⟩ : ∃ W, ((w.alloc (.cells (l.cells A n p B m q).toArray 28)).alloc (.cells c.cells.toArray 32)).alloc (.cells d.cells.toArray 32) = W := ⟨_, rfl⟩
  have bb0 : Below w.heap.size w w0 := by rw [← hw0]; exact (((Below.refl _ _).alloc (Nat.le_refl _) _).alloc (by simp) _).alloc (by simp; omega) _
  have k0 : Blk w0 w.heap.size (l.cells A n p B m q).toArray := by rw [← hw0]; exact ((blk_new rfl).alloc _).alloc _
  have g0 : Blk w0 (w.heap.size + 1) c.cells.toArray := by rw [← hw0]; exact (blk_new (by simp)).alloc _
  have d0 : Blk w0 (w.heap.size + 1 + 1) d.cells.toArray := by rw [← hw0]; exact blk_new (by simp)
  have t0 := ht.below bb0
  have q1 := head37_any w0 t0
  have lq := hx.room; have lm := hx.max; have lq' := hy.room; have lm' := hy.max
  have q2 := fun W (h : Below w.heap.size w W) => lright_any l c t A n p B m q W (by omega) (by omega) (fun h1 => (hx.below h).is h1) (fun h1 => (hy.below h).is h1) hc
  have q3 := fun W (h : Below w.heap.size w W) => lright_any l d u A n p B m q W (by omega) (by omega) (fun h1 => (hx.below h).is h1) (fun h1 => (hy.below h).is h1) hd
  cases hR1 : rgtB l c t n m with
  | false =>
    rw [hR1] at q2
    unfold Lk.cells at k0 hw0 q2 q3 ⊢
    unfold Crd.cells at g0 d0 hw0 q2 q3 ⊢
    have ⟨H_bb0, H_k0, H_g0, H_d0, H_hw0, H_q1, H_q2, H_q3⟩ := hid8 bb0 k0 g0 d0 hw0 q1 q2 q3; clear bb0 k0 g0 d0 hw0 q1 q2 q3; have ⟨H_t0, H_hx, H_hy, H_hl, H_hc, H_hd, H_hti, H_hui⟩ := hid8 t0 hx hy hl hc hd hti hui; clear t0 hx hy hl hc hd hti hui; have ⟨H_ht, H_lq, H_lm, H_lq', H_lm', H_hR1⟩ := hid6 ht lq lm lq' lm' hR1; clear ht lq lm lq' lm' hR1
    go_enter Tryz.func5, Tryz.ntmps5
    go_wp2_with fail
    rw [H_hw0.out]
    go_wp2_with fail
    (with_reducible refine (H_q1.out).mono ?_)
    rintro e w1 ⟨rfl, b1⟩
    have c1 : Below w0.heap.size w0 w1 := Below.trans belt (b1.mono omh)
    have s1 := c1.size
    have bb1 := H_bb0.out.trans (c1.mono H_bb0.out.size)
    have t1 := H_t0.out.below c1
    have k1 := H_k0.out.below c1
    have g1 := H_g0.out.below c1
    have d1 := H_d0.out.below c1
    have ⟨H_b1, H_c1, H_bb1, H_t1, H_k1, H_g1, H_d1⟩ := hid7 b1 c1 bb1 t1 k1 g1 d1; clear b1 c1 bb1 t1 k1 g1 d1
    obtain ⟨y0, y1, y2, y3, y4, y5, y6, y7, y8, y9, y10, y11⟩ := at12_of H_k1.out
    obtain ⟨z0, z1, z2, z3, z4, z5, z6, z7, z8⟩ := at9_of H_g1.out
    go_wp2_with fail
    (with_reducible refine (H_q2.out _ ?_).mono ?_)
    · exact H_bb1.out.trans ((show Below w1.heap.size w1 _ from belt).mono H_bb1.out.size)
    rintro e w2 ⟨rfl, b2⟩
    have c2 : Below w1.heap.size w1 w2 := Below.trans belt (b2.mono omh)
    have s2 := c2.size
    have bb2 := H_bb1.out.trans (c2.mono H_bb1.out.size)
    have t2 := H_t1.out.below c2
    have k2 := H_k1.out.below c2
    have g2 := H_g1.out.below c2
    have d2 := H_d1.out.below c2
    have ⟨H_b2, H_c2, H_bb2, H_t2, H_k2, H_g2, H_d2⟩ := hid7 b2 c2 bb2 t2 k2 g2 d2; clear b2 c2 bb2 t2 k2 g2 d2
    clear y0 y1 y2 y3 y4 y5 y6 y7 y8 y9 y10 y11
    clear z0 z1 z2 z3 z4 z5 z6 z7 z8
    go_wp2_with fail
    go_ret
    exact ⟨rfl, H_bb2.out⟩
  | true =>
    rw [hR1] at q2
    cases hR2 : rgtB l d u n m with
    | false =>
      rw [hR2] at q3
      unfold Lk.cells at k0 hw0 q2 q3 ⊢
      unfold Crd.cells at g0 d0 hw0 q2 q3 ⊢
      have ⟨H_bb0, H_k0, H_g0, H_d0, H_hw0, H_q1, H_q2, H_q3⟩ := hid8 bb0 k0 g0 d0 hw0 q1 q2 q3; clear bb0 k0 g0 d0 hw0 q1 q2 q3; have ⟨H_t0, H_hx, H_hy, H_hl, H_hc, H_hd, H_hti, H_hui⟩ := hid8 t0 hx hy hl hc hd hti hui; clear t0 hx hy hl hc hd hti hui; have ⟨H_ht, H_lq, H_lm, H_lq', H_lm', H_hR1, H_hR2⟩ := hid7 ht lq lm lq' lm' hR1 hR2; clear ht lq lm lq' lm' hR1 hR2
      go_enter Tryz.func5, Tryz.ntmps5
      go_wp2_with fail
      rw [H_hw0.out]
      go_wp2_with fail
      (with_reducible refine (H_q1.out).mono ?_)
      rintro e w1 ⟨rfl, b1⟩
      have c1 : Below w0.heap.size w0 w1 := Below.trans belt (b1.mono omh)
      have s1 := c1.size
      have bb1 := H_bb0.out.trans (c1.mono H_bb0.out.size)
      have t1 := H_t0.out.below c1
      have k1 := H_k0.out.below c1
      have g1 := H_g0.out.below c1
      have d1 := H_d0.out.below c1
      have ⟨H_b1, H_c1, H_bb1, H_t1, H_k1, H_g1, H_d1⟩ := hid7 b1 c1 bb1 t1 k1 g1 d1; clear b1 c1 bb1 t1 k1 g1 d1
      obtain ⟨y0, y1, y2, y3, y4, y5, y6, y7, y8, y9, y10, y11⟩ := at12_of H_k1.out
      obtain ⟨z0, z1, z2, z3, z4, z5, z6, z7, z8⟩ := at9_of H_g1.out
      go_wp2_with fail
      (with_reducible refine (H_q2.out _ ?_).mono ?_)
      · exact H_bb1.out.trans ((show Below w1.heap.size w1 _ from belt).mono H_bb1.out.size)
      rintro e w2 ⟨rfl, b2⟩
      have c2 : Below w1.heap.size w1 w2 := Below.trans belt (b2.mono omh)
      have s2 := c2.size
      have bb2 := H_bb1.out.trans (c2.mono H_bb1.out.size)
      have t2 := H_t1.out.below c2
      have k2 := H_k1.out.below c2
      have g2 := H_g1.out.below c2
      have d2 := H_d1.out.below c2
      have ⟨H_b2, H_c2, H_bb2, H_t2, H_k2, H_g2, H_d2⟩ := hid7 b2 c2 bb2 t2 k2 g2 d2; clear b2 c2 bb2 t2 k2 g2 d2
      clear y0 y1 y2 y3 y4 y5 y6 y7 y8 y9 y10 y11
      clear z0 z1 z2 z3 z4 z5 z6 z7 z8
      obtain ⟨y0, y1, y2, y3, y4, y5, y6, y7, y8, y9, y10, y11⟩ := at12_of H_k2.out
      obtain ⟨z0, z1, z2, z3, z4, z5, z6, z7, z8⟩ := at9_of H_d2.out
      go_wp2_with fail
      (with_reducible refine (H_q3.out _ ?_).mono ?_)
      · exact H_bb2.out.trans ((show Below w2.heap.size w2 _ from belt).mono H_bb2.out.size)
      rintro e w3 ⟨rfl, b3⟩
      have c3 : Below w2.heap.size w2 w3 := Below.trans belt (b3.mono omh)
      have s3 := c3.size
      have bb3 := H_bb2.out.trans (c3.mono H_bb2.out.size)
      have t3 := H_t2.out.below c3
      have k3 := H_k2.out.below c3
      have g3 := H_g2.out.below c3
      have d3 := H_d2.out.below c3
      have ⟨H_b3, H_c3, H_bb3, H_t3, H_k3, H_g3, H_d3⟩ := hid7 b3 c3 bb3 t3 k3 g3 d3; clear b3 c3 bb3 t3 k3 g3 d3
      clear y0 y1 y2 y3 y4 y5 y6 y7 y8 y9 y10 y11
      clear z0 z1 z2 z3 z4 z5 z6 z7 z8
      go_wp2_with fail
      go_ret
      exact ⟨rfl, H_bb3.out⟩
    | true =>
      rw [hR2] at q3
      by_cases hk : c.k = 1
      rotate_left
      · have i1 : (c.k != 1) = true := by simp [hk]
        unfold Lk.cells at k0 hw0 q2 q3 ⊢
        unfold Crd.cells at g0 d0 hw0 q2 q3 ⊢
        have ⟨H_bb0, H_k0, H_g0, H_d0, H_hw0, H_q1, H_q2, H_q3⟩ := hid8 bb0 k0 g0 d0 hw0 q1 q2 q3; clear bb0 k0 g0 d0 hw0 q1 q2 q3; have ⟨H_t0, H_hx, H_hy, H_hl, H_hc, H_hd, H_hti, H_hui⟩ := hid8 t0 hx hy hl hc hd hti hui; clear t0 hx hy hl hc hd hti hui; have ⟨H_ht, H_lq, H_lm, H_lq', H_lm', H_hR1, H_hR2⟩ := hid7 ht lq lm lq' lm' hR1 hR2; clear ht lq lm lq' lm' hR1 hR2
        go_enter Tryz.func5, Tryz.ntmps5
        go_wp2_with fail
        rw [H_hw0.out]
        go_wp2_with fail
        (with_reducible refine (H_q1.out).mono ?_)
        rintro e w1 ⟨rfl, b1⟩
        have c1 : Below w0.heap.size w0 w1 := Below.trans belt (b1.mono omh)
        have s1 := c1.size
        have bb1 := H_bb0.out.trans (c1.mono H_bb0.out.size)
        have t1 := H_t0.out.below c1
        have k1 := H_k0.out.below c1
        have g1 := H_g0.out.below c1
        have d1 := H_d0.out.below c1
        have ⟨H_b1, H_c1, H_bb1, H_t1, H_k1, H_g1, H_d1⟩ := hid7 b1 c1 bb1 t1 k1 g1 d1; clear b1 c1 bb1 t1 k1 g1 d1
        obtain ⟨y0, y1, y2, y3, y4, y5, y6, y7, y8, y9, y10, y11⟩ := at12_of H_k1.out
        obtain ⟨z0, z1, z2, z3, z4, z5, z6, z7, z8⟩ := at9_of H_g1.out
        go_wp2_with fail
        (with_reducible refine (H_q2.out _ ?_).mono ?_)
        · exact H_bb1.out.trans ((show Below w1.heap.size w1 _ from belt).mono H_bb1.out.size)
        rintro e w2 ⟨rfl, b2⟩
        have c2 : Below w1.heap.size w1 w2 := Below.trans belt (b2.mono omh)
        have s2 := c2.size
        have bb2 := H_bb1.out.trans (c2.mono H_bb1.out.size)
        have t2 := H_t1.out.below c2
        have k2 := H_k1.out.below c2
        have g2 := H_g1.out.below c2
        have d2 := H_d1.out.below c2
        have ⟨H_b2, H_c2, H_bb2, H_t2, H_k2, H_g2, H_d2⟩ := hid7 b2 c2 bb2 t2 k2 g2 d2; clear b2 c2 bb2 t2 k2 g2 d2
        clear y0 y1 y2 y3 y4 y5 y6 y7 y8 y9 y10 y11
        clear z0 z1 z2 z3 z4 z5 z6 z7 z8
        obtain ⟨y0, y1, y2, y3, y4, y5, y6, y7, y8, y9, y10, y11⟩ := at12_of H_k2.out
        obtain ⟨z0, z1, z2, z3, z4, z5, z6, z7, z8⟩ := at9_of H_d2.out
        go_wp2_with fail
        (with_reducible refine (H_q3.out _ ?_).mono ?_)
        · exact H_bb2.out.trans ((show Below w2.heap.size w2 _ from belt).mono H_bb2.out.size)
        rintro e w3 ⟨rfl, b3⟩
        have c3 : Below w2.heap.size w2 w3 := Below.trans belt (b3.mono omh)
        have s3 := c3.size
        have bb3 := H_bb2.out.trans (c3.mono H_bb2.out.size)
        have t3 := H_t2.out.below c3
        have k3 := H_k2.out.below c3
        have g3 := H_g2.out.below c3
        have d3 := H_d2.out.below c3
        have ⟨H_b3, H_c3, H_bb3, H_t3, H_k3, H_g3, H_d3⟩ := hid7 b3 c3 bb3 t3 k3 g3 d3; clear b3 c3 bb3 t3 k3 g3 d3
        clear y0 y1 y2 y3 y4 y5 y6 y7 y8 y9 y10 y11
        clear z0 z1 z2 z3 z4 z5 z6 z7 z8
        obtain ⟨z0, z1, z2, z3, z4, z5, z6, z7, z8⟩ := at9_of H_g3.out
        go_wp2_with fail
        go_ret
        exact ⟨rfl, H_bb3.out⟩
      have hR3 := hR1
      simp only [rgtB, Bool.and_eq_true, len40B, decide_eq_true_eq] at hR3
      obtain ⟨⟨⟨⟨n40, m40⟩, hv⟩, hcv⟩, htb⟩ := hR3
      have sf := hx.sfit n40
      have sg := hy.sfit m40
      have fM := sh_fit (l := l) (t := t) (a := 3) hc sf sg
      have i1 : (c.k != 1) = false := by simp [hk]
      have q4 := fun W (h : Below w.heap.size w W) => show_any l c t 3 A n p B m q W ((hx.below h).is n40) ((hy.below h).is m40) (ht.below h) hc
      by_cases hE : shE l c t 3 = 0
      rotate_left
      · have i2 : (shE l c t 3 != 0) = true := by simp [hE]
        have i3 : (shE l c t 3 == 0) = false := by simp [hE]
        generalize shE l c t 3 = EE at *
        generalize shR l c t 3 = M at *
        generalize shO l c t 3 = OM at *
        unfold ShowPost at q4
        unfold Lk.cells at k0 hw0 q2 q3 q4 ⊢
        unfold Crd.cells at g0 d0 hw0 q2 q3 q4 ⊢
        have ⟨H_bb0, H_k0, H_g0, H_d0, H_hw0, H_q1, H_q2, H_q3⟩ := hid8 bb0 k0 g0 d0 hw0 q1 q2 q3; clear bb0 k0 g0 d0 hw0 q1 q2 q3; have ⟨H_q4, H_t0, H_hx, H_hy, H_hl, H_hc, H_hd, H_hti⟩ := hid8 q4 t0 hx hy hl hc hd hti; clear q4 t0 hx hy hl hc hd hti; have ⟨H_hui, H_ht, H_lq, H_lm, H_lq', H_lm', H_hR1, H_hR2⟩ := hid8 hui ht lq lm lq' lm' hR1 hR2; clear hui ht lq lm lq' lm' hR1 hR2; have ⟨H_n40, H_m40, H_hv, H_hcv, H_htb, H_sf, H_sg, H_fM⟩ := hid8 n40 m40 hv hcv htb sf sg fM; clear n40 m40 hv hcv htb sf sg fM; have ⟨H_hE, H_hk⟩ := hid2 hE hk; clear hE hk
        go_enter Tryz.func5, Tryz.ntmps5
        go_wp2_with fail
        rw [H_hw0.out]
        go_wp2_with fail
        (with_reducible refine (H_q1.out).mono ?_)
        rintro e w1 ⟨rfl, b1⟩
        have c1 : Below w0.heap.size w0 w1 := Below.trans belt (b1.mono omh)
        have s1 := c1.size
        have bb1 := H_bb0.out.trans (c1.mono H_bb0.out.size)
        have t1 := H_t0.out.below c1
        have k1 := H_k0.out.below c1
        have g1 := H_g0.out.below c1
        have d1 := H_d0.out.below c1
        have ⟨H_b1, H_c1, H_bb1, H_t1, H_k1, H_g1, H_d1⟩ := hid7 b1 c1 bb1 t1 k1 g1 d1; clear b1 c1 bb1 t1 k1 g1 d1
        obtain ⟨y0, y1, y2, y3, y4, y5, y6, y7, y8, y9, y10, y11⟩ := at12_of H_k1.out
        obtain ⟨z0, z1, z2, z3, z4, z5, z6, z7, z8⟩ := at9_of H_g1.out
        go_wp2_with fail
        (with_reducible refine (H_q2.out _ ?_).mono ?_)
        · exact H_bb1.out.trans ((show Below w1.heap.size w1 _ from belt).mono H_bb1.out.size)
        rintro e w2 ⟨rfl, b2⟩
        have c2 : Below w1.heap.size w1 w2 := Below.trans belt (b2.mono omh)
        have s2 := c2.size
        have bb2 := H_bb1.out.trans (c2.mono H_bb1.out.size)
        have t2 := H_t1.out.below c2
        have k2 := H_k1.out.below c2
        have g2 := H_g1.out.below c2
        have d2 := H_d1.out.below c2
        have ⟨H_b2, H_c2, H_bb2, H_t2, H_k2, H_g2, H_d2⟩ := hid7 b2 c2 bb2 t2 k2 g2 d2; clear b2 c2 bb2 t2 k2 g2 d2
        clear y0 y1 y2 y3 y4 y5 y6 y7 y8 y9 y10 y11
        clear z0 z1 z2 z3 z4 z5 z6 z7 z8
        obtain ⟨y0, y1, y2, y3, y4, y5, y6, y7, y8, y9, y10, y11⟩ := at12_of H_k2.out
        obtain ⟨z0, z1, z2, z3, z4, z5, z6, z7, z8⟩ := at9_of H_d2.out
        go_wp2_with fail
        (with_reducible refine (H_q3.out _ ?_).mono ?_)
        · exact H_bb2.out.trans ((show Below w2.heap.size w2 _ from belt).mono H_bb2.out.size)
        rintro e w3 ⟨rfl, b3⟩
        have c3 : Below w2.heap.size w2 w3 := Below.trans belt (b3.mono omh)
        have s3 := c3.size
        have bb3 := H_bb2.out.trans (c3.mono H_bb2.out.size)
        have t3 := H_t2.out.below c3
        have k3 := H_k2.out.below c3
        have g3 := H_g2.out.below c3
        have d3 := H_d2.out.below c3
        have ⟨H_b3, H_c3, H_bb3, H_t3, H_k3, H_g3, H_d3⟩ := hid7 b3 c3 bb3 t3 k3 g3 d3; clear b3 c3 bb3 t3 k3 g3 d3
        clear y0 y1 y2 y3 y4 y5 y6 y7 y8 y9 y10 y11
        clear z0 z1 z2 z3 z4 z5 z6 z7 z8
        obtain ⟨x0, x1, x2, x3, x4, x5, x6, x7, x8⟩ := at9_of H_g3.out
        obtain ⟨y0, y1, y2, y3, y4, y5, y6, y7, y8, y9, y10, y11⟩ := at12_of H_k3.out
        go_wp2_with fail
        (with_reducible refine (H_q4.out _ ?_).mono ?_)
        · exact H_bb3.out.trans ((show Below w3.heap.size w3 _ from belt).mono H_bb3.out.size)
        rintro e w4 ⟨A4, p4, B4, r4, rfl, pa4, pb4, b4⟩
        have c4 : Below w3.heap.size w3 w4 := Below.trans belt (b4.mono omh)
        have s4 := c4.size
        have bb4 := H_bb3.out.trans (c4.mono H_bb3.out.size)
        have t4 := H_t3.out.below c4
        have k4 := H_k3.out.below c4
        have g4 := H_g3.out.below c4
        have d4 := H_d3.out.below c4
        have ⟨H_b4, H_c4, H_bb4, H_t4, H_k4, H_g4, H_d4⟩ := hid7 b4 c4 bb4 t4 k4 g4 d4; clear b4 c4 bb4 t4 k4 g4 d4
        clear y0 y1 y2 y3 y4 y5 y6 y7 y8 y9 y10 y11
        clear x0 x1 x2 x3 x4 x5 x6 x7 x8
        go_wp2_with fail
        go_ret
        exact ⟨rfl, H_bb4.out.alloc H_bb4.out.size _⟩
      obtain ⟨oM, eN, oN, rN, hlt, hold⟩ := newest_law hE hk
      have hold := hold d u
      have q5 := fun W A p B r (h1 : SlotIs W A (shR l c t 3).x.l.length (shR l c t 3).x) (h2 : SlotIs W B (shR l c t 3).y.l.length (shR l c t 3).y) (h3 : Tab W) => show_any (shR l c t 3) c t 3 A _ p B _ r W h1 h2 h3 hc
      have q6 := fun W A p B r (h1 : SlotIs W A (shR l c t 3).x.l.length (shR l c t 3).x) (h2 : SlotIs W B (shR l c t 3).y.l.length (shR l c t 3).y) (h3 : Tab W) => show_any (shR l c t 3) d u 3 A _ p B _ r W h1 h2 h3 hd
      rw [hE, oM] at q4
      rw [eN, oN, rN] at q5
      clear hE oM eN oN rN
      generalize shR (shR l c t 3) d u 3 = Z at *
      generalize shO (shR l c t 3) d u 3 = OZ at *
      generalize shE (shR l c t 3) d u 3 = EZ at *
      generalize shR l c t 3 = M at *
      have q7 := fun W A p B r A' p' B' r' h1 h2 h3 h4 => rlsame_self M A M.x.l.length p B M.y.l.length r A' p' B' r' rfl rfl (by have := fM.1.few; omega) (by have := fM.2.few; omega) W h1 h2 h3 h4
      have q8 := fun W A p B r (h1 : SlotIs W A M.x.l.length M.x) (h2 : SlotIs W B M.y.l.length M.y) => lkept_any M A _ p B _ r W h1 h2
      have i4 : decide ((keepS M).c < c.n) = false := decide_eq_false hlt
      generalize (keepS M).c = kc at *
      unfold ShowPost at q4 q5 q6
      unfold Lk.cells at k0 hw0 q2 q3 q4 q5 q6 q7 q8 ⊢
      unfold Crd.cells at g0 d0 hw0 q2 q3 q4 q5 q6 ⊢
      obtain ⟨ci, ck, cd, cn, cf, cu, cl, ce, cs⟩ := c
      obtain ⟨di, dk, dd, dn, df, du, dl, de, ds⟩ := d
      dsimp only at *
      subst hk
      have hcase : (dk ≠ 1) ∨ (dk = 1 ∧ ¬ dn < cn) ∨ (dk = 1 ∧ dn < cn ∧ EZ ≠ 0 ∧ OZ = false) := by
        by_cases h1 : dk = 1
        · by_cases h2 : dn < cn
          · exact .inr (.inr ⟨h1, h2, hold h1 h2⟩)
          · exact .inr (.inl ⟨h1, h2⟩)
        · exact .inl h1
      clear hold
      have ⟨H_bb0, H_k0, H_g0, H_d0, H_hw0, H_q1, H_q2, H_q3⟩ := hid8 bb0 k0 g0 d0 hw0 q1 q2 q3; clear bb0 k0 g0 d0 hw0 q1 q2 q3; have ⟨H_q4, H_q5, H_q6, H_q7, H_q8, H_t0, H_hx, H_hy⟩ := hid8 q4 q5 q6 q7 q8 t0 hx hy; clear q4 q5 q6 q7 q8 t0 hx hy; have ⟨H_hl, H_hc, H_hd, H_hti, H_hui, H_ht, H_lq, H_lm⟩ := hid8 hl hc hd hti hui ht lq lm; clear hl hc hd hti hui ht lq lm; have ⟨H_lq', H_lm', H_hR1, H_hR2, H_n40, H_m40, H_hv, H_hcv⟩ := hid8 lq' lm' hR1 hR2 n40 m40 hv hcv; clear lq' lm' hR1 hR2 n40 m40 hv hcv; have ⟨H_htb, H_sf, H_sg, H_fM, H_hcase⟩ := hid5 htb sf sg fM hcase; clear htb sf sg fM hcase
      go_enter Tryz.func5, Tryz.ntmps5
      go_wp2_with fail
      rw [H_hw0.out]
      go_wp2_with fail
      (with_reducible refine (H_q1.out).mono ?_)
      rintro e w1 ⟨rfl, b1⟩
      have c1 : Below w0.heap.size w0 w1 := Below.trans belt (b1.mono omh)
      have s1 := c1.size
      have bb1 := H_bb0.out.trans (c1.mono H_bb0.out.size)
      have t1 := H_t0.out.below c1
      have k1 := H_k0.out.below c1
      have g1 := H_g0.out.below c1
      have d1 := H_d0.out.below c1
      have ⟨H_b1, H_c1, H_bb1, H_t1, H_k1, H_g1, H_d1⟩ := hid7 b1 c1 bb1 t1 k1 g1 d1; clear b1 c1 bb1 t1 k1 g1 d1
      obtain ⟨y0, y1, y2, y3, y4, y5, y6, y7, y8, y9, y10, y11⟩ := at12_of H_k1.out
      obtain ⟨z0, z1, z2, z3, z4, z5, z6, z7, z8⟩ := at9_of H_g1.out
      go_wp2_with fail
      (with_reducible refine (H_q2.out _ ?_).mono ?_)
      · exact H_bb1.out.trans ((show Below w1.heap.size w1 _ from belt).mono H_bb1.out.size)
      rintro e w2 ⟨rfl, b2⟩
      have c2 : Below w1.heap.size w1 w2 := Below.trans belt (b2.mono omh)
      have s2 := c2.size
      have bb2 := H_bb1.out.trans (c2.mono H_bb1.out.size)
      have t2 := H_t1.out.below c2
      have k2 := H_k1.out.below c2
      have g2 := H_g1.out.below c2
      have d2 := H_d1.out.below c2
      have ⟨H_b2, H_c2, H_bb2, H_t2, H_k2, H_g2, H_d2⟩ := hid7 b2 c2 bb2 t2 k2 g2 d2; clear b2 c2 bb2 t2 k2 g2 d2
      clear y0 y1 y2 y3 y4 y5 y6 y7 y8 y9 y10 y11
      clear z0 z1 z2 z3 z4 z5 z6 z7 z8
      obtain ⟨y0, y1, y2, y3, y4, y5, y6, y7, y8, y9, y10, y11⟩ := at12_of H_k2.out
      obtain ⟨z0, z1, z2, z3, z4, z5, z6, z7, z8⟩ := at9_of H_d2.out
      go_wp2_with fail
      (with_reducible refine (H_q3.out _ ?_).mono ?_)
      · exact H_bb2.out.trans ((show Below w2.heap.size w2 _ from belt).mono H_bb2.out.size)
      rintro e w3 ⟨rfl, b3⟩
      have c3 : Below w2.heap.size w2 w3 := Below.trans belt (b3.mono omh)
      have s3 := c3.size
      have bb3 := H_bb2.out.trans (c3.mono H_bb2.out.size)
      have t3 := H_t2.out.below c3
      have k3 := H_k2.out.below c3
      have g3 := H_g2.out.below c3
      have d3 := H_d2.out.below c3
      have ⟨H_b3, H_c3, H_bb3, H_t3, H_k3, H_g3, H_d3⟩ := hid7 b3 c3 bb3 t3 k3 g3 d3; clear b3 c3 bb3 t3 k3 g3 d3
      clear y0 y1 y2 y3 y4 y5 y6 y7 y8 y9 y10 y11
      clear z0 z1 z2 z3 z4 z5 z6 z7 z8
      obtain ⟨x0, x1, x2, x3, x4, x5, x6, x7, x8⟩ := at9_of H_g3.out
      obtain ⟨y0, y1, y2, y3, y4, y5, y6, y7, y8, y9, y10, y11⟩ := at12_of H_k3.out
      go_wp2_with fail
      (with_reducible refine (H_q4.out _ ?_).mono ?_)
      · exact H_bb3.out.trans ((show Below w3.heap.size w3 _ from belt).mono H_bb3.out.size)
      rintro e w4 ⟨A4, p4, B4, r4, rfl, pa4, pb4, b4⟩
      have c4 : Below w3.heap.size w3 w4 := Below.trans belt (b4.mono omh)
      have s4 := c4.size
      have bb4 := H_bb3.out.trans (c4.mono H_bb3.out.size)
      have t4 := H_t3.out.below c4
      have k4 := H_k3.out.below c4
      have g4 := H_g3.out.below c4
      have d4 := H_d3.out.below c4
      have ⟨H_b4, H_c4, H_bb4, H_t4, H_k4, H_g4, H_d4⟩ := hid7 b4 c4 bb4 t4 k4 g4 d4; clear b4 c4 bb4 t4 k4 g4 d4
      clear y0 y1 y2 y3 y4 y5 y6 y7 y8 y9 y10 y11
      clear x0 x1 x2 x3 x4 x5 x6 x7 x8
      have xm4 := H_fM.out.1.is pa4.1
      have ym4 := H_fM.out.2.is pb4.1
      clear pa4 pb4
      have ⟨H_xm4, H_ym4⟩ := hid2 xm4 ym4; clear xm4 ym4
      obtain ⟨z0, z1, z2, z3, z4, z5, z6, z7, z8⟩ := at9_of H_g4.out
      have lz := (H_g4.out 0 _ rfl).lt
      go_wp2_with fail
      (with_reducible refine (H_q5.out _ A4 p4 B4 r4 ?_ ?_ ?_).mono ?_)
      · exact H_xm4.out.below (show Below w4.heap.size w4 _ from belt)
      · exact H_ym4.out.below (show Below w4.heap.size w4 _ from belt)
      · exact H_t4.out.below (show Below w4.heap.size w4 _ from belt)
      rintro e w5 ⟨A5, p5, B5, r5, rfl, pa5, pb5, b5⟩
      have c5 : Below w4.heap.size w4 w5 := Below.trans belt (b5.mono omh)
      have s5 := c5.size
      have bb5 := H_bb4.out.trans (c5.mono H_bb4.out.size)
      have t5 := H_t4.out.below c5
      have g5 := H_g4.out.below c5
      have d5 := H_d4.out.below c5
      have xm5 := H_xm4.out.below c5
      have ym5 := H_ym4.out.below c5
      have ⟨H_b5, H_c5, H_bb5, H_t5, H_g5, H_d5, H_xm5, H_ym5⟩ := hid8 b5 c5 bb5 t5 g5 d5 xm5 ym5; clear b5 c5 bb5 t5 g5 d5 xm5 ym5
      clear lz
      clear z0 z1 z2 z3 z4 z5 z6 z7 z8
      have km5 : Blk w5 w4.heap.size _ := (blk_new rfl).below H_b5.out
      have xn5 := H_fM.out.1.is pa5.1
      have yn5 := H_fM.out.2.is pb5.1
      clear pa5 pb5
      have ⟨H_km5, H_xn5, H_yn5⟩ := hid3 km5 xn5 yn5; clear km5 xn5 yn5
      obtain ⟨y0, y1, y2, y3, y4, y5, y6, y7, y8, y9, y10, y11⟩ := at12_of H_km5.out
      obtain ⟨z0, z1, z2, z3, z4, z5, z6, z7, z8⟩ := at9_of H_d5.out
      have ly := (H_km5.out 0 _ rfl).lt
      have lz := (H_d5.out 0 _ rfl).lt
      go_wp2_with fail
      (with_reducible refine (H_q6.out _ A4 p4 B4 r4 ?_ ?_ ?_).mono ?_)
      · exact H_xm5.out.below (show Below w5.heap.size w5 _ from belt)
      · exact H_ym5.out.below (show Below w5.heap.size w5 _ from belt)
      · exact H_t5.out.below (show Below w5.heap.size w5 _ from belt)
      rintro e w6 ⟨A6, p6, B6, r6, rfl, _, _, b6⟩
      have c6 : Below w5.heap.size w5 w6 := Below.trans belt (b6.mono omh)
      have s6 := c6.size
      have bb6 := H_bb5.out.trans (c6.mono H_bb5.out.size)
      have t6 := H_t5.out.below c6
      have g6 := H_g5.out.below c6
      have d6 := H_d5.out.below c6
      have km6 := H_km5.out.below c6
      have xm6 := H_xm5.out.below c6
      have ym6 := H_ym5.out.below c6
      have xn6 := H_xn5.out.below c6
      have yn6 := H_yn5.out.below c6
      have ⟨H_b6, H_c6, H_bb6, H_t6, H_g6, H_d6, H_km6, H_xm6⟩ := hid8 b6 c6 bb6 t6 g6 d6 km6 xm6; clear b6 c6 bb6 t6 g6 d6 km6 xm6; have ⟨H_ym6, H_xn6, H_yn6⟩ := hid3 ym6 xn6 yn6; clear ym6 xn6 yn6
      clear ly lz
      clear y0 y1 y2 y3 y4 y5 y6 y7 y8 y9 y10 y11
      clear z0 z1 z2 z3 z4 z5 z6 z7 z8
      have kn6 : Blk w6 w5.heap.size _ := (blk_new rfl).below H_b6.out
      have H_kn6 := Lib.hid kn6; clear kn6
      go_upto_region 9 with (fail)
      obtain ⟨w7, hw7⟩ : ∃ W, w6.alloc (.cells #[.int .i64 Z.d, .int .i64 Z.k, .int .i64 Z.r, .int .i64 Z.x.s, .int .i64 Z.x.c, .slice A6 Z.x.l.length p6, .int .u64 Z.x.u, .int .i64 Z.y.s, .int .i64 Z.y.c, .slice B6 Z.y.l.length r6, .int .u64 Z.y.u, .bool Z.up] 28) = W := ⟨_, rfl⟩
      rw [hw7]
      have c7 : Below w6.heap.size w6 w7 := by rw [← hw7]; exact (Below.refl _ _).alloc (Nat.le_refl _) _
      have bb7 := H_bb6.out.trans (c7.mono H_bb6.out.size)
      have km7 := H_km6.out.below c7
      have kn7 := H_kn6.out.below c7
      have g7 := H_g6.out.below c7
      have d7 := H_d6.out.below c7
      have xm7 := H_xm6.out.below c7
      have ym7 := H_ym6.out.below c7
      have xn7 := H_xn6.out.below c7
      have yn7 := H_yn6.out.below c7
      have ⟨H_hw7, H_c7, H_bb7, H_km7, H_kn7, H_g7, H_d7, H_xm7⟩ := hid8 hw7 c7 bb7 km7 kn7 g7 d7 xm7; clear hw7 c7 bb7 km7 kn7 g7 d7 xm7; have ⟨H_ym7, H_xn7, H_yn7⟩ := hid3 ym7 xn7 yn7; clear ym7 xn7 yn7
      obtain ⟨y0, y1, y2, y3, y4, y5, y6, y7, y8, y9, y10, y11⟩ := at12_of H_km7.out
      obtain ⟨v0, v1, v2, v3, v4, v5, v6, v7, v8, v9, v10, v11⟩ := at12_of H_kn7.out
      obtain ⟨z0, z1, z2, z3, z4, z5, z6, z7, z8⟩ := at9_of H_g7.out
      have ly := (H_km7.out 0 _ rfl).lt
      have lv := (H_kn7.out 0 _ rfl).lt
      have lz := (H_g7.out 0 _ rfl).lt
      refine wp_region_held_drew (S := (fun W => (∀ b o, b < w7.heap.size → W.cell? ⟨b, o, none⟩ = w7.cell? ⟨b, o, none⟩) ∧ Below w7.heap.size w7 W)) (by kernel_rfl) ?_ (fun hHeld => ?_)
      · (try dsimp only); (first | (refine ext_mk ?_; exact belt))
      refine take_at (i := 0) (some 67) rfl rfl (by kernel_rfl) (fun _ _ _ h => h) (by rfl) (v := ?_) ?_ (by assumption) ?_
      rotate_left
      · intro W hSw; (try dsimp only at hSw); go_simp; (try with_reducible rfl)
      (try simp only [apz])
      refine take_at (i := 1) (some 68) rfl rfl (by kernel_rfl) (fun _ _ _ h => h) (by rfl) (v := ?_) ?_ (by assumption) ?_
      rotate_left
      · intro W hSw; (try dsimp only at hSw); go_simp; (try with_reducible rfl)
      (try simp only [apz])
      refine take_at (i := 2) (some 69) rfl rfl (by kernel_rfl) (fun _ _ _ h => h) (by rfl) (v := ?_) ?_ (by assumption) ?_
      rotate_left
      · intro W hSw; (try dsimp only at hSw); go_simp; (try with_reducible rfl)
      (try simp only [apz])
      refine take_at (i := 3) (some 70) rfl rfl (by kernel_rfl) (fun _ _ _ h => h) (by rfl) (v := ?_) ?_ (by assumption) ?_
      rotate_left
      · intro W hSw; (try dsimp only at hSw); go_simp; (try with_reducible rfl)
      (try simp only [apz])
      refine take_at (i := 4) (some 71) rfl rfl (by kernel_rfl) (fun _ _ _ h => h) (by rfl) (v := ?_) ?_ (by assumption) ?_
      rotate_left
      · intro W hSw; (try dsimp only at hSw); go_simp; (try with_reducible rfl)
      (try simp only [apz])
      refine take_at (i := 5) (some 72) rfl rfl (by kernel_rfl) (fun _ _ _ h => h) (by rfl) (v := ?_) ?_ (by assumption) ?_
      rotate_left
      · intro W hSw; (try dsimp only at hSw); go_simp; (try with_reducible rfl)
      (try simp only [apz])
      refine take_at (i := 6) (some 73) rfl rfl (by kernel_rfl) (fun _ _ _ h => h) (by rfl) (v := ?_) ?_ (by assumption) ?_
      rotate_left
      · intro W hSw; (try dsimp only at hSw); go_simp; (try with_reducible rfl)
      (try simp only [apz])
      refine take_at (i := 7) (some 74) rfl rfl (by kernel_rfl) (fun _ _ _ h => h) (by rfl) (v := ?_) ?_ (by assumption) ?_
      rotate_left
      · intro W hSw; (try dsimp only at hSw); go_simp; (try with_reducible rfl)
      (try simp only [apz])
      refine take_at (i := 8) (some 75) rfl rfl (by kernel_rfl) (fun _ _ _ h => h) (by rfl) (v := ?_) ?_ (by assumption) ?_
      rotate_left
      · intro W hSw; (try dsimp only at hSw); go_simp; (try with_reducible rfl)
      (try simp only [apz])
      refine take_at (i := 9) (some 76) rfl rfl (by kernel_rfl) (fun _ _ _ h => h) (by rfl) (v := ?_) ?_ (by assumption) ?_
      rotate_left
      · intro W hSw; (try dsimp only at hSw); go_simp; (try with_reducible rfl)
      (try simp only [apz])
      refine take_at (i := 10) (some 77) rfl rfl (by kernel_rfl) (fun _ _ _ h => h) (by rfl) (v := ?_) ?_ (by assumption) ?_
      rotate_left
      · intro W hSw; (try dsimp only at hSw); go_simp; (try with_reducible rfl)
      (try simp only [apz])
      refine take_at (i := 11) (some 78) rfl rfl (by kernel_rfl) (fun _ _ _ h => h) (by rfl) (v := ?_) ?_ (by assumption) ?_
      rotate_left
      · intro W hSw; (try dsimp only at hSw); go_simp; (try with_reducible rfl)
      (try simp only [apz])
      refine take_at (i := 12) (some 79) rfl rfl (by kernel_rfl) (fun _ _ _ h => h) (by rfl) (v := ?_) ?_ (by assumption) ?_
      rotate_left
      · intro W hSw; (try dsimp only at hSw); go_simp; (try with_reducible rfl)
      (try simp only [apz])
      refine wpAnyH_ready (rs := [13]) (by kernel_rfl) (by simp) ?_
      refine AllReadyH.cons rfl (fun K hK => ?_) AllReadyH.nil
      go_simp
      (first | (go_at_call 12; (with_reducible refine (H_q7.out _ A4 p4 B4 r4 A5 p5 B5 r5 ?_ ?_ ?_ ?_).mono ?_); (focus (exact H_xm7.out.ints.below (And.right (by assumption : _ ∧ Below w7.heap.size w7 _)))); (focus (exact H_ym7.out.ints.below (And.right (by assumption : _ ∧ Below w7.heap.size w7 _)))); (focus (exact H_xn7.out.ints.below (And.right (by assumption : _ ∧ Below w7.heap.size w7 _)))); (focus (exact H_yn7.out.ints.below (And.right (by assumption : _ ∧ Below w7.heap.size w7 _)))); rintro e w8 ⟨rfl, hbw8⟩; have gw8 := Below.trans (And.right (by assumption : _ ∧ Below w7.heap.size w7 _)) (hbw8.mono (Below.size (And.right (by assumption : _ ∧ Below w7.heap.size w7 _)))); have gsw8 := gw8.size; have hcf := bcell hbw8; have hcw8 := hcf.1; have hfw8 := hcf.2; have hsw8 := hbw8.size; (try simp only [World.size_alloc, World.heap_drewN, heap_drew] at hsw8); clear hbw8 hcf; (try have hzw8 : w7.heap.size < w8.heap.size := by omega)) | (go_at_call 20; (with_reducible refine (H_q8.out _ A4 p4 B4 r4 ?_ ?_).mono ?_); (focus (exact H_xm7.out.below (And.right (by assumption : _ ∧ Below w7.heap.size w7 _)))); (focus (exact H_ym7.out.below (And.right (by assumption : _ ∧ Below w7.heap.size w7 _)))); rintro e w9 ⟨rfl, hbw9⟩; have gw9 := Below.trans (And.right (by assumption : _ ∧ Below w7.heap.size w7 _)) (hbw9.mono (Below.size (And.right (by assumption : _ ∧ Below w7.heap.size w7 _)))); have gsw9 := gw9.size; have hcf := bcell hbw9; have hcw9 := hcf.1; have hfw9 := hcf.2; have hsw9 := hbw9.size; (try simp only [World.size_alloc, World.heap_drewN, heap_drew] at hsw9); clear hbw9 hcf; (try have hzw9 : w7.heap.size < w9.heap.size := by omega)))
      refine hK.out _ _ ?_ (fun hHeld => ?_)
      · (try dsimp only); (first | (refine ext_mk ?_; exact belt))
      clear hK K
      (try simp only [apz])
      refine take_at (i := 14) (some 81) rfl rfl (by kernel_rfl) (fun _ _ _ h => h) (by rfl) (v := ?_) ?_ (by assumption) ?_
      rotate_left
      · intro W hSw; (try dsimp only at hSw); go_simp; (try with_reducible rfl)
      (try simp only [apz])
      refine take_at (i := 15) (some 82) rfl rfl (by kernel_rfl) (fun _ _ _ h => h) (by rfl) (v := ?_) ?_ (by assumption) ?_
      rotate_left
      · intro W hSw; (try dsimp only at hSw); go_simp; (try with_reducible rfl)
      (try simp only [apz])
      refine take_at (i := 16) (some 83) rfl rfl (by kernel_rfl) (fun _ _ _ h => h) (by rfl) (v := ?_) ?_ (by assumption) ?_
      rotate_left
      · intro W hSw; (try dsimp only at hSw); go_simp; (try with_reducible rfl)
      (try simp only [apz])
      refine take_at (i := 17) (some 84) rfl rfl (by kernel_rfl) (fun _ _ _ h => h) (by rfl) (v := ?_) ?_ (by assumption) ?_
      rotate_left
      · intro W hSw; (try dsimp only at hSw); go_simp; (try with_reducible rfl)
      (try simp only [apz])
      refine take_at (i := 19) (some 86) rfl rfl (by kernel_rfl) (fun _ _ _ h => h) (by rfl) (v := ?_) ?_ (by assumption) ?_
      rotate_left
      · intro W hSw; (try dsimp only at hSw); go_simp; (try with_reducible rfl)
      (try simp only [apz])
      refine take_at (i := 20) (some 87) rfl rfl (by kernel_rfl) (fun _ _ _ h => h) (by rfl) (v := ?_) ?_ (by assumption) ?_
      rotate_left
      · intro W hSw; (try dsimp only at hSw); go_simp; (try with_reducible rfl)
      (try simp only [apz])
      refine wpAnyH_ready (rs := [18]) (by kernel_rfl) (by simp) ?_
      refine AllReadyH.cons rfl (fun K hK => ?_) AllReadyH.nil
      go_simp
      (first | (go_at_call 12; (with_reducible refine (H_q7.out _ A4 p4 B4 r4 A5 p5 B5 r5 ?_ ?_ ?_ ?_).mono ?_); (focus (exact H_xm7.out.ints.below (And.right (by assumption : _ ∧ Below w7.heap.size w7 _)))); (focus (exact H_ym7.out.ints.below (And.right (by assumption : _ ∧ Below w7.heap.size w7 _)))); (focus (exact H_xn7.out.ints.below (And.right (by assumption : _ ∧ Below w7.heap.size w7 _)))); (focus (exact H_yn7.out.ints.below (And.right (by assumption : _ ∧ Below w7.heap.size w7 _)))); rintro e w8 ⟨rfl, hbw8⟩; have gw8 := Below.trans (And.right (by assumption : _ ∧ Below w7.heap.size w7 _)) (hbw8.mono (Below.size (And.right (by assumption : _ ∧ Below w7.heap.size w7 _)))); have gsw8 := gw8.size; have hcf := bcell hbw8; have hcw8 := hcf.1; have hfw8 := hcf.2; have hsw8 := hbw8.size; (try simp only [World.size_alloc, World.heap_drewN, heap_drew] at hsw8); clear hbw8 hcf; (try have hzw8 : w7.heap.size < w8.heap.size := by omega)) | (go_at_call 20; (with_reducible refine (H_q8.out _ A4 p4 B4 r4 ?_ ?_).mono ?_); (focus (exact H_xm7.out.below (And.right (by assumption : _ ∧ Below w7.heap.size w7 _)))); (focus (exact H_ym7.out.below (And.right (by assumption : _ ∧ Below w7.heap.size w7 _)))); rintro e w9 ⟨rfl, hbw9⟩; have gw9 := Below.trans (And.right (by assumption : _ ∧ Below w7.heap.size w7 _)) (hbw9.mono (Below.size (And.right (by assumption : _ ∧ Below w7.heap.size w7 _)))); have gsw9 := gw9.size; have hcf := bcell hbw9; have hcw9 := hcf.1; have hfw9 := hcf.2; have hsw9 := hbw9.size; (try simp only [World.size_alloc, World.heap_drewN, heap_drew] at hsw9); clear hbw9 hcf; (try have hzw9 : w7.heap.size < w9.heap.size := by omega)))
      refine hK.out _ _ ?_ (fun hHeld => ?_)
      · (try dsimp only); (first | (refine ext_mk ?_; exact belt))
      clear hK K
      (try simp only [apz])
      refine take_at (i := 21) (some 88) rfl rfl (by kernel_rfl) (fun _ _ _ h => h) (by rfl) (v := ?_) ?_ (by assumption) ?_
      rotate_left
      · intro W hSw; (try dsimp only at hSw); go_simp; (try with_reducible rfl)
      (try simp only [apz])
      refine take_at (i := 22) (some 89) rfl rfl (by kernel_rfl) (fun _ _ _ h => h) (by rfl) (v := ?_) ?_ (by assumption) ?_
      rotate_left
      · intro W hSw; (try dsimp only at hSw); go_simp; (try with_reducible rfl)
      (try simp only [apz])
      refine wpAnyH_done (by kernel_rfl) ?_ _
      all_goals
        have gF : Below w7.heap.size w7 _ := And.right (by assumption)
        have dF := H_d7.out.below gF
        have gG := H_g7.out.below gF
        have bF := H_bb7.out.trans (gF.mono H_bb7.out.size)
        clear gF ly lv lz
        clear y0 y1 y2 y3 y4 y5 y6 y7 y8 y9 y10 y11
        clear v0 v1 v2 v3 v4 v5 v6 v7 v8 v9 v10 v11
        clear z0 z1 z2 z3 z4 z5 z6 z7 z8
        have ⟨H_dF, H_gG, H_bF⟩ := hid3 dF gG bF; clear dF gG bF
        obtain ⟨y0, y1, y2, y3, y4, y5, y6, y7, y8⟩ := at9_of H_dF.out
        obtain ⟨z0, z1, z2, z3, z4, z5, z6, z7, z8⟩ := at9_of H_gG.out
        rcases H_hcase.out with h1 | ⟨rfl, h2⟩ | ⟨rfl, h2, h3, rfl⟩
        · have i5 : (dk == 1) = false := by simp [h1]
          go_wp2_with fail
          go_ret
          exact ⟨rfl, H_bF.out⟩
        · have i5 : decide (dn < cn) = false := decide_eq_false (by omega)
          go_wp2_with fail
          go_ret
          exact ⟨rfl, H_bF.out⟩
        · have i5 : decide (dn < cn) = true := decide_eq_true h2
          have i6 : (EZ != 0) = true := by simp [h3]
          go_wp2_with fail
          go_ret
          exact ⟨rfl, H_bF.out⟩
end Go.Proofs.YtoehobaigfmnpaaGreatDoor

/- The walk of LockPower. -/
import Derived.Test.YtoehobaigfmnpaaDoorChecked
import Derived.WalkKit
import Derived.WalkSpells
import Derived.WalkLawsBesides
import Derived.Deep.QuietTactic
import Derived.BigQuiet
import Derived.BigGuardPart
import Derived.Lib.Hide
import Derived.Below
import Derived.IntWalk
import Derived.Laws.Rows
import Derived.OneCell
import Derived.Outline
import Derived.Deep.RegionHeld3
import Derived.Deep.RegionWith
import Derived.Maps.AppendAt
import Derived.Deep.AppendLies
import Derived.Laws.OwnMore
import Derived.OwnWalk
import Derived.Laws.BitsAllLaws
import Derived.Lib.ItoaNum
import Derived.Lib.ItoaLen
import Derived.Shelf.Small.Wraps
import Derived.Shelf.Strconv.Itoa0
import Derived.Shelf.Strconv.Itoa1
import Derived.Shelf.LaysM
import Derived.Shelf.Strconv.Itoa2
import Derived.Shelf.Strconv.Itoa3
import Derived.Shelf.Slices.Turned
import Derived.Shelf.Slices.Reverse
import Derived.Ground.Names2Prog
import Derived.Shelf.Slices.Clone
import Derived.Shelf.Slices.SearchI
import Derived.Shelf.Slices.Cells
import Derived.Shelf.Slices.Empties
import Derived.Test.YtoehobaigfmnpaaDoorProg
import Derived.Lib.AppendIntMem
import Derived.Lib.OthersKept
import Derived.Lib.AppendStr
import Derived.Lib.SlBytesConst
import Derived.StillTailTactics
import Derived.Deep.Cut
import Derived.Lib.SmallJoins
import Derived.Deep.Slices
import Derived.Maps.OwnSet
import Derived.Maps.OwnOps
import Derived.Deep.CutRange
import Derived.DeepKeys
import Derived.OpenShut
import Derived.Test.YtoehobaigfmnpaaDoorMr1
import Derived.Test.YtoehobaigfmnpaaDoorMr2
import Derived.Test.YtoehobaigfmnpaaDoorMr3
import Derived.Test.YtoehobaigfmnpaaDoorMr4
import Derived.Test.YtoehobaigfmnpaaDoorMr5
import Derived.Test.YtoehobaigfmnpaaDoorMr6
import Derived.Test.YtoehobaigfmnpaaDoorMr7
import Derived.Test.YtoehobaigfmnpaaDoorMr8
import Derived.Test.YtoehobaigfmnpaaDoorMr9
import Derived.Test.YtoehobaigfmnpaaDoorMr10
import Derived.Test.YtoehobaigfmnpaaDoorMr11
import Derived.Test.YtoehobaigfmnpaaDoorMr12
import Derived.Test.YtoehobaigfmnpaaDoorMr13
import Derived.Test.YtoehobaigfmnpaaDoorMr14
import Derived.Test.YtoehobaigfmnpaaDoorMr15
import Derived.Test.YtoehobaigfmnpaaDoorMr16
import Derived.Test.YtoehobaigfmnpaaDoorMr17
import Derived.Test.YtoehobaigfmnpaaDoorMr18
import Derived.Test.YtoehobaigfmnpaaDoorMr19
import Derived.Test.YtoehobaigfmnpaaDoorMr20
import Derived.Test.YtoehobaigfmnpaaDoorMr21
import Derived.Test.YtoehobaigfmnpaaDoorMr22
import Derived.Test.YtoehobaigfmnpaaDoorMr23
import Derived.Test.YtoehobaigfmnpaaDoorMr24
import Derived.Test.YtoehobaigfmnpaaDoorMr25
import Derived.Test.YtoehobaigfmnpaaDoorMr26
import Derived.Test.YtoehobaigfmnpaaDoorMr27
import Derived.Test.YtoehobaigfmnpaaDoorMr28
import Derived.Test.YtoehobaigfmnpaaDoorMr29
import Derived.Test.YtoehobaigfmnpaaDoorMr30
import Derived.Test.YtoehobaigfmnpaaDoorMr31
import Derived.Test.YtoehobaigfmnpaaDoorMr32
import Derived.Test.YtoehobaigfmnpaaDoorMr33
import Derived.Test.YtoehobaigfmnpaaDoorMr34
import Derived.Test.YtoehobaigfmnpaaDoorMr35
import Derived.Test.YtoehobaigfmnpaaDoorMr36
import Derived.Test.YtoehobaigfmnpaaDoorMr37
import Derived.Test.YtoehobaigfmnpaaDoorMr38
import Derived.Test.YtoehobaigfmnpaaDoorMr39
import Derived.Test.YtoehobaigfmnpaaDoorMr40
import Derived.Test.YtoehobaigfmnpaaDoorMr41
import Derived.Test.YtoehobaigfmnpaaDoorMr42
import Derived.Test.YtoehobaigfmnpaaDoorMr43
import Derived.Test.YtoehobaigfmnpaaDoorMr44
import Derived.Test.YtoehobaigfmnpaaDoorMr45
import Derived.Test.YtoehobaigfmnpaaDoorMr46
import Derived.Test.YtoehobaigfmnpaaDoorMr47
import Derived.Test.YtoehobaigfmnpaaDoorMr48
import Derived.Test.YtoehobaigfmnpaaDoorMp1
import Derived.Test.YtoehobaigfmnpaaDoorMp3
namespace Go.Proofs.YtoehobaigfmnpaaDoor
set_option linter.unusedSimpArgs false
set_option linter.unusedVariables false
set_option maxRecDepth 100000
open Go.RowKit
set_option maxHeartbeats 16000000 in
theorem lockPower_walk (l : Lk) (A : Option Addr) (n p : Nat) (B : Option Addr) (m q : Nat) (c : Crd) (t mo : Int) (w : World) (hx : SlotArg w A n p l.x) (hy : SlotArg w B m q l.y) (hl : LFit l) (hc : CFit c) (hti : (Lit.int .i64 t).wf = true) (hmo : (Lit.int .u8 mo).wf = true) (ht : Tab w) :
  Calls Tryd.prog 8 #[.agg (l.cells A n p B m q).toArray, .agg c.cells.toArray, .int .i64 t, .int .u8 mo] w fun e w' => e = .returned (.bool true) ∧ Below w.heap.size w w' := by
 have hm0 := wf_u8 hmo
 have ha0 : 0 ≤ mo % 3 := by omega
 have k1' : IntKind.i64.wrap mo = mo := IntWalk.i64_in _ (by omega)
 have k2' : mo.tmod 3 = mo % 3 := Int.tmod_eq_emod_of_nonneg hm0.1
 have k3' : IntKind.i64.wrap (mo % 3) = mo % 3 := IntWalk.i64_in _ (by omega)
 have ha1 : mo % 3 ≤ 2 := by omega
 obtain ⟨w0, hw0⟩ : ∃ W, (w.alloc (.cells (l.cells A n p B m q).toArray 55)).alloc (.cells c.cells.toArray 31) = W := ⟨_, rfl⟩
 have bb0 : Below w.heap.size w w0 := by rw [← hw0]; exact ((Below.refl _ _).alloc (Nat.le_refl _) _).alloc (by simp) _
 have k0 : Blk w0 w.heap.size (l.cells A n p B m q).toArray := by rw [← hw0]; exact (blk_new rfl).alloc _
 have g0 : Blk w0 (w.heap.size + 1) c.cells.toArray := by rw [← hw0]; exact blk_new (by simp)
 have t0 := ht.below bb0
 have q1 := head37_any w0 t0
 have lq := hx.room; have lm := hx.max; have lq' := hy.room; have lm' := hy.max
 have q2 := fun W (h : Below w.heap.size w W) => lright_any l c t A n p B m q W (by omega) (by omega) (fun h1 => (hx.below h).is h1) (fun h1 => (hy.below h).is h1) hc
 cases hR : rgtB l c t n m with
 | false =>
  rw [hR] at q2
  unfold Lk.cells at k0 hw0 q2 ⊢
  unfold Crd.cells at g0 hw0 q2 ⊢
  have ⟨H_bb0, H_k0, H_g0, H_hw0, H_q1, H_q2, H_t0, H_hx⟩ := hid8 bb0 k0 g0 hw0 q1 q2 t0 hx; clear bb0 k0 g0 hw0 q1 q2 t0 hx; have ⟨H_hy, H_hl, H_hc, H_hti, H_hmo, H_ht, H_hR, H_lq⟩ := hid8 hy hl hc hti hmo ht hR lq; clear hy hl hc hti hmo ht hR lq; have ⟨H_lm, H_lq', H_lm', H_hm0, H_ha0, H_ha1⟩ := hid6 lm lq' lm' hm0 ha0 ha1; clear lm lq' lm' hm0 ha0 ha1
  go_enter Tryd.func8, Tryd.ntmps8
  go_wp2_with fail
  rw [H_hw0.out]
  go_wp2_with fail
  (with_reducible refine (H_q1.out).mono ?_)
  rintro e w1 ⟨rfl, b1⟩
  have c1 : Below w0.heap.size w0 w1 := Below.trans belt (b1.mono omh)
  have s1 := c1.size
  have bb1 := H_bb0.out.trans (c1.mono H_bb0.out.size)
  have t1 := H_t0.out.below c1
  have k1 := H_k0.out.below c1
  have g1 := H_g0.out.below c1
  have ⟨H_b1, H_c1, H_bb1, H_t1, H_k1, H_g1⟩ := hid6 b1 c1 bb1 t1 k1 g1; clear b1 c1 bb1 t1 k1 g1
  obtain ⟨y0, y1, y2, y3, y4, y5, y6, y7, y8, y9, y10, y11⟩ := at12_of H_k1.out
  obtain ⟨z0, z1, z2, z3, z4, z5, z6, z7, z8⟩ := at9_of H_g1.out
  go_wp2_with fail
  (with_reducible refine (H_q2.out _ ?_).mono ?_)
  ·exact H_bb1.out.trans ((show Below w1.heap.size w1 _ from belt).mono H_bb1.out.size)
  rintro e w2 ⟨rfl, b2⟩
  have c2 : Below w1.heap.size w1 w2 := Below.trans belt (b2.mono omh)
  have s2 := c2.size
  have bb2 := H_bb1.out.trans (c2.mono H_bb1.out.size)
  have t2 := H_t1.out.below c2
  have ⟨H_b2, H_c2, H_bb2, H_t2⟩ := hid4 b2 c2 bb2 t2; clear b2 c2 bb2 t2
  go_wp2_with fail
  go_ret
  exact ⟨rfl, H_bb2.out⟩
 | true =>
  rw [hR] at q2
  have hR2 := hR
  simp only [rgtB, Bool.and_eq_true, len40B, decide_eq_true_eq] at hR2
  obtain ⟨⟨⟨⟨n40, m40⟩, hv⟩, hcv⟩, htb⟩ := hR2
  have sx := fun W (h : Below w.heap.size w W) => (hx.below h).is n40
  have sy := fun W (h : Below w.heap.size w W) => (hy.below h).is m40
  have sf := hx.sfit n40
  have sg := hy.sfit m40
  have fW := sh_fit (l := l) (t := t) (a := 3) hc sf sg
  have fM := sh_fit (l := l) (t := t) (a := mo % 3) hc sf sg
  have q3 := fun W (h : Below w.heap.size w W) => show_any l c t 3 A n p B m q W (sx W h) (sy W h) (ht.below h) hc
  have q4 := fun W (h : Below w.heap.size w W) => show_any l c t (mo % 3) A n p B m q W (sx W h) (sy W h) (ht.below h) hc
  rw [shE_at (a := mo % 3) (b := 3) (by omega) (by omega)] at q4
  by_cases hE : shE l c t 3 = 0
  rotate_left
  ·have i0 : (shE l c t 3 != shE l c t 3) = false := by simp
   have i1 : (shE l c t 3 == shE l c t 3) = true := by simp
   have i2 : (shE l c t 3 != 0) = true := by simp [hE]
   have i3 : (shE l c t 3 == 0) = false := by simp [hE]
   generalize shE l c t 3 = EE at *
   generalize shR l c t 3 = R3 at *
   generalize shO l c t 3 = O3 at *
   generalize shR l c t (mo % 3) = M at *
   generalize shO l c t (mo % 3) = OM at *
   unfold ShowPost at q3 q4
   unfold Lk.cells at k0 hw0 q2 q3 q4 ⊢
   unfold Crd.cells at g0 hw0 q2 q3 q4 ⊢
   have ⟨H_bb0, H_k0, H_g0, H_hw0, H_q1, H_q2, H_q3, H_q4⟩ := hid8 bb0 k0 g0 hw0 q1 q2 q3 q4; clear bb0 k0 g0 hw0 q1 q2 q3 q4; have ⟨H_t0, H_hx, H_hy, H_hl, H_hc, H_hti, H_hmo, H_ht⟩ := hid8 t0 hx hy hl hc hti hmo ht; clear t0 hx hy hl hc hti hmo ht; have ⟨H_hR, H_lq, H_lm, H_lq', H_lm', H_hm0, H_sx, H_sy⟩ := hid8 hR lq lm lq' lm' hm0 sx sy; clear hR lq lm lq' lm' hm0 sx sy; have ⟨H_sf, H_sg, H_fW, H_fM, H_hE, H_n40, H_m40, H_hv⟩ := hid8 sf sg fW fM hE n40 m40 hv; clear sf sg fW fM hE n40 m40 hv; have ⟨H_hcv, H_htb⟩ := hid2 hcv htb; clear hcv htb
   go_enter Tryd.func8, Tryd.ntmps8
   go_wp2_with fail
   rw [H_hw0.out]
   go_wp2_with fail
   (with_reducible refine (H_q1.out).mono ?_)
   rintro e w1 ⟨rfl, b1⟩
   have c1 : Below w0.heap.size w0 w1 := Below.trans belt (b1.mono omh)
   have s1 := c1.size
   have bb1 := H_bb0.out.trans (c1.mono H_bb0.out.size)
   have t1 := H_t0.out.below c1
   have k1 := H_k0.out.below c1
   have g1 := H_g0.out.below c1
   have ⟨H_b1, H_c1, H_bb1, H_t1, H_k1, H_g1⟩ := hid6 b1 c1 bb1 t1 k1 g1; clear b1 c1 bb1 t1 k1 g1
   obtain ⟨y0, y1, y2, y3, y4, y5, y6, y7, y8, y9, y10, y11⟩ := at12_of H_k1.out
   obtain ⟨z0, z1, z2, z3, z4, z5, z6, z7, z8⟩ := at9_of H_g1.out
   go_wp2_with fail
   (with_reducible refine (H_q2.out _ ?_).mono ?_)
   ·exact H_bb1.out.trans ((show Below w1.heap.size w1 _ from belt).mono H_bb1.out.size)
   rintro e w2 ⟨rfl, b2⟩
   have c2 : Below w1.heap.size w1 w2 := Below.trans belt (b2.mono omh)
   have s2 := c2.size
   have bb2 := H_bb1.out.trans (c2.mono H_bb1.out.size)
   have t2 := H_t1.out.below c2
   have k2 := H_k1.out.below c2
   have g2 := H_g1.out.below c2
   have ⟨H_b2, H_c2, H_bb2, H_t2, H_k2, H_g2⟩ := hid6 b2 c2 bb2 t2 k2 g2; clear b2 c2 bb2 t2 k2 g2
   clear y0 y1 y2 y3 y4 y5 y6 y7 y8 y9 y10 y11
   clear z0 z1 z2 z3 z4 z5 z6 z7 z8
   obtain ⟨y0, y1, y2, y3, y4, y5, y6, y7, y8, y9, y10, y11⟩ := at12_of H_k2.out
   obtain ⟨z0, z1, z2, z3, z4, z5, z6, z7, z8⟩ := at9_of H_g2.out
   go_wp2_with fail
   (with_reducible refine (H_q3.out _ ?_).mono ?_)
   ·exact H_bb2.out.trans ((show Below w2.heap.size w2 _ from belt).mono H_bb2.out.size)
   rintro e w3 ⟨A3, p3, B3, r3, rfl, _, _, b3⟩
   have c3 : Below w2.heap.size w2 w3 := Below.trans belt (b3.mono omh)
   have s3 := c3.size
   have bb3 := H_bb2.out.trans (c3.mono H_bb2.out.size)
   have t3 := H_t2.out.below c3
   have k3 := H_k2.out.below c3
   have g3 := H_g2.out.below c3
   have ⟨H_b3, H_c3, H_bb3, H_t3, H_k3, H_g3⟩ := hid6 b3 c3 bb3 t3 k3 g3; clear b3 c3 bb3 t3 k3 g3
   clear y0 y1 y2 y3 y4 y5 y6 y7 y8 y9 y10 y11
   clear z0 z1 z2 z3 z4 z5 z6 z7 z8
   obtain ⟨y0, y1, y2, y3, y4, y5, y6, y7, y8, y9, y10, y11⟩ := at12_of H_k3.out
   obtain ⟨z0, z1, z2, z3, z4, z5, z6, z7, z8⟩ := at9_of H_g3.out
   have ly := (H_k3.out 0 _ rfl).lt
   have lz := (H_g3.out 0 _ rfl).lt
   go_wp2_with fail
   (with_reducible refine (H_q4.out _ ?_).mono ?_)
   ·exact H_bb3.out.trans ((show Below w3.heap.size w3 _ from belt).mono H_bb3.out.size)
   rintro e w4 ⟨A4, p4, B4, r4, rfl, _, _, b4⟩
   have c4 : Below w3.heap.size w3 w4 := Below.trans belt (b4.mono omh)
   have s4 := c4.size
   have bb4 := H_bb3.out.trans (c4.mono H_bb3.out.size)
   have t4 := H_t3.out.below c4
   have ⟨H_b4, H_c4, H_bb4, H_t4⟩ := hid4 b4 c4 bb4 t4; clear b4 c4 bb4 t4
   go_wp2_with fail
   go_ret
   exact ⟨rfl, H_bb4.out.alloc H_bb4.out.size _⟩
  obtain ⟨uM, vM, eM, oM, pM, kM, eK, oK, vN, sN⟩ := power_law hE ha0 ha1
  have hpwM := pw_of vM true
  have fK : SFit (pwR (shR l c t (mo % 3)) true).x ∧ SFit (pwR (shR l c t (mo % 3)) true).y := by rw [hpwM.1]; exact fM
  have fN := sh_fit (l := pwR (shR l c t (mo % 3)) true) (t := t) (a := 3) hc fK.1 fK.2
  obtain ⟨K1, t1, sl1, q11⟩ := rlkeeps_as l A n p B m q w (hx.is n40) (hy.is m40)
  have hkI : SFit (keepS l) := by unfold keepS; split <;> assumption
  rw [hE] at q3 q4
  rw [oM] at q4
  have i1 : (shO l c t 3 != shO l c t 3) = false := by simp
  clear hpwM hE oM pM
  have q5 := fun W A p B r (h1 : SlotIs W A (shR l c t (mo % 3)).x.l.length (shR l c t (mo % 3)).x) (h2 : SlotIs W B (shR l c t (mo % 3)).y.l.length (shR l c t (mo % 3)).y) (h3 : Tab W) => lvalid_any (shR l c t (mo % 3)) A _ p B _ r W h1 h2 h3
  rw [vM] at q5
  have q6 := fun W A p B r (h1 : SlotIs W A (shR l c t (mo % 3)).x.l.length (shR l c t (mo % 3)).x) (h2 : SlotIs W B (shR l c t (mo % 3)).y.l.length (shR l c t (mo % 3)).y) => rlvalid_any (shR l c t (mo % 3)) A _ p B _ r W h1 h2
  rw [vM] at q6
  have q7 := fun W A p B r (h1 : SlotIs W A (shR l c t (mo % 3)).x.l.length (shR l c t (mo % 3)).x) (h2 : SlotIs W B (shR l c t (mo % 3)).y.l.length (shR l c t (mo % 3)).y) (h3 : Tab W) => show_any (shR l c t (mo % 3)) c t 3 A _ p B _ r W h1 h2 h3 hc
  rw [eM] at q7
  have q8 := fun W A p B r (h1 : SlotIs W A (shR l c t (mo % 3)).x.l.length (shR l c t (mo % 3)).x) (h2 : SlotIs W B (shR l c t (mo % 3)).y.l.length (shR l c t (mo % 3)).y) (h3 : Tab W) => lpower_any (shR l c t (mo % 3)) true A _ p B _ r W h1 h2 h3
  rw [show pwE (shR l c t (mo % 3)) = 0 from (pw_of vM true).2] at q8
  have q9 := fun W A p B r (h1 : SlotIs W A (pwR (shR l c t (mo % 3)) true).x.l.length (pwR (shR l c t (mo % 3)) true).x) (h2 : SlotIs W B (pwR (shR l c t (mo % 3)) true).y.l.length (pwR (shR l c t (mo % 3)) true).y) (h3 : Tab W) => show_any (pwR (shR l c t (mo % 3)) true) c t 3 A _ p B _ r W h1 h2 h3 hc
  rw [eK, oK] at q9
  have q10 := fun W A p B r (h1 : SlotIs W A (shR (pwR (shR l c t (mo % 3)) true) c t 3).x.l.length (shR (pwR (shR l c t (mo % 3)) true) c t 3).x) (h2 : SlotIs W B (shR (pwR (shR l c t (mo % 3)) true) c t 3).y.l.length (shR (pwR (shR l c t (mo % 3)) true) c t 3).y) => rlvalid_any (shR (pwR (shR l c t (mo % 3)) true) c t 3) A _ p B _ r W h1 h2
  rw [vN] at q10
  clear vM eM eK oK vN hv hcv htb
  generalize shR (shR l c t (mo % 3)) c t 3 = Z at *
  generalize shO (shR l c t (mo % 3)) c t 3 = OZ at *
  generalize shR (pwR (shR l c t (mo % 3)) true) c t 3 = N at *
  generalize pwR (shR l c t (mo % 3)) true = K at *
  generalize shR l c t (mo % 3) = M at *
  generalize shR l c t 3 = R3 at *
  generalize shO l c t 3 = O3 at *
  have qk := fun (L : Lk) w A p B r (h1 : SlotIs w A L.x.l.length L.x) (h2 : SlotIs w B L.y.l.length L.y) => rlkeeps_as L A _ p B _ r w h1 h2
  have q13 := fun (s : Slt) W K1 K2 t1 t2 (h : SFit s) (h1 : IntsAt W K1 .i64 s.l) (h2 : IntsAt W K2 .i64 s.l) => rsame_at s s K1 s.l.length t1 rfl K2 s.l.length t2 rfl W (by have := h.few; omega) (by have := h.few; omega) h1 h2
  simp only [sameS_self] at q13
  have q14 := fun W K1 K2 t1 t2 (h0 : SFit (keepS R3)) (h : SFit (keepS N)) (h1 : IntsAt W K1 .i64 (keepS R3).l) (h2 : IntsAt W K2 .i64 (keepS N).l) => rsays_any (keepS R3) (keepS N).c K1 (keepS R3).l.length t1 rfl K2 (keepS N).l.length t2 (keepS N).l rfl W (by have := h0.few; omega) (by have := h.few; omega) h1 h2
  rw [sN] at q14
  have hkR : SFit (keepS R3) := by unfold keepS; split; exact fW.2; exact fW.1
  have hkM : SFit (keepS M) := by unfold keepS; split; exact fM.2; exact fM.1
  have hkN : SFit (keepS N) := by unfold keepS; split; exact fN.2; exact fN.1
  unfold LockErr at q8
  unfold ShowPost at q3 q4 q7 q9
  unfold Lk.cells at k0 hw0 q2 q3 q4 q5 q6 q7 q8 q9 q10 q11 qk ⊢
  unfold Crd.cells at g0 hw0 q2 q3 q4 q7 q9 ⊢
  rw [uM] at q4 q5 q6 q7 q8
  have qkM := qk M
  rw [uM] at qkM
  have qkR := qk R3
  have qkN := qk N
  clear sN uM qk
  generalize hsl : keepS l = sl at *
  generalize hsM : keepS M = sM at *
  generalize hsR : keepS R3 = sR at *
  generalize hsN : keepS N = sn at *
  have ⟨H_bb0, H_k0, H_g0, H_hw0, H_q1, H_q2, H_q3, H_q4⟩ := hid8 bb0 k0 g0 hw0 q1 q2 q3 q4; clear bb0 k0 g0 hw0 q1 q2 q3 q4; have ⟨H_q5, H_q6, H_q7, H_q8, H_q9, H_q10, H_q11, H_q13⟩ := hid8 q5 q6 q7 q8 q9 q10 q11 q13; clear q5 q6 q7 q8 q9 q10 q11 q13; have ⟨H_q14, H_qkM, H_qkR, H_qkN, H_t0, H_hx, H_hy, H_hl⟩ := hid8 q14 qkM qkR qkN t0 hx hy hl; clear q14 qkM qkR qkN t0 hx hy hl; have ⟨H_hc, H_hti, H_hmo, H_ht, H_hR, H_lq, H_lm, H_lq'⟩ := hid8 hc hti hmo ht hR lq lm lq'; clear hc hti hmo ht hR lq lm lq'; have ⟨H_lm', H_hm0, H_sx, H_sy, H_sf, H_sg, H_fW, H_fM⟩ := hid8 lm' hm0 sx sy sf sg fW fM; clear lm' hm0 sx sy sf sg fW fM; have ⟨H_fK, H_fN, H_hkI, H_hkR, H_hkM, H_hkN, H_n40, H_m40⟩ := hid8 fK fN hkI hkR hkM hkN n40 m40; clear fK fN hkI hkR hkM hkN n40 m40; have ⟨H_kM, H_sl1, H_hsl, H_hsM, H_hsR, H_hsN⟩ := hid6 kM sl1 hsl hsM hsR hsN; clear kM sl1 hsl hsM hsR hsN
  go_enter Tryd.func8, Tryd.ntmps8
  go_wp2_with fail
  rw [H_hw0.out]
  go_wp2_with fail
  (with_reducible refine (H_q1.out).mono ?_)
  rintro e w1 ⟨rfl, b1⟩
  have c1 : Below w0.heap.size w0 w1 := Below.trans belt (b1.mono omh)
  have s1 := c1.size
  have bb1 := H_bb0.out.trans (c1.mono H_bb0.out.size)
  have t1 := H_t0.out.below c1
  have k1 := H_k0.out.below c1
  have g1 := H_g0.out.below c1
  have ⟨H_b1, H_c1, H_bb1, H_t1, H_k1, H_g1⟩ := hid6 b1 c1 bb1 t1 k1 g1; clear b1 c1 bb1 t1 k1 g1
  obtain ⟨y0, y1, y2, y3, y4, y5, y6, y7, y8, y9, y10, y11⟩ := at12_of H_k1.out
  obtain ⟨z0, z1, z2, z3, z4, z5, z6, z7, z8⟩ := at9_of H_g1.out
  go_wp2_with fail
  (with_reducible refine (H_q2.out _ ?_).mono ?_)
  ·exact H_bb1.out.trans ((show Below w1.heap.size w1 _ from belt).mono H_bb1.out.size)
  rintro e w2 ⟨rfl, b2⟩
  have c2 : Below w1.heap.size w1 w2 := Below.trans belt (b2.mono omh)
  have s2 := c2.size
  have bb2 := H_bb1.out.trans (c2.mono H_bb1.out.size)
  have t2 := H_t1.out.below c2
  have k2 := H_k1.out.below c2
  have g2 := H_g1.out.below c2
  have ⟨H_b2, H_c2, H_bb2, H_t2, H_k2, H_g2⟩ := hid6 b2 c2 bb2 t2 k2 g2; clear b2 c2 bb2 t2 k2 g2
  clear y0 y1 y2 y3 y4 y5 y6 y7 y8 y9 y10 y11
  clear z0 z1 z2 z3 z4 z5 z6 z7 z8
  obtain ⟨y0, y1, y2, y3, y4, y5, y6, y7, y8, y9, y10, y11⟩ := at12_of H_k2.out
  obtain ⟨z0, z1, z2, z3, z4, z5, z6, z7, z8⟩ := at9_of H_g2.out
  go_wp2_with fail
  (with_reducible refine (H_q3.out _ ?_).mono ?_)
  ·exact H_bb2.out.trans ((show Below w2.heap.size w2 _ from belt).mono H_bb2.out.size)
  rintro e w3 ⟨A3, p3, B3, r3, rfl, pa3, pb3, b3⟩
  have c3 : Below w2.heap.size w2 w3 := Below.trans belt (b3.mono omh)
  have s3 := c3.size
  have bb3 := H_bb2.out.trans (c3.mono H_bb2.out.size)
  have t3 := H_t2.out.below c3
  have k3 := H_k2.out.below c3
  have g3 := H_g2.out.below c3
  have ⟨H_b3, H_c3, H_bb3, H_t3, H_k3, H_g3⟩ := hid6 b3 c3 bb3 t3 k3 g3; clear b3 c3 bb3 t3 k3 g3
  have xr3 := H_fW.out.1.is pa3.1
  have yr3 := H_fW.out.2.is pb3.1
  clear pa3 pb3
  have ⟨H_xr3, H_yr3⟩ := hid2 xr3 yr3; clear xr3 yr3
  clear y0 y1 y2 y3 y4 y5 y6 y7 y8 y9 y10 y11
  clear z0 z1 z2 z3 z4 z5 z6 z7 z8
  obtain ⟨y0, y1, y2, y3, y4, y5, y6, y7, y8, y9, y10, y11⟩ := at12_of H_k3.out
  obtain ⟨z0, z1, z2, z3, z4, z5, z6, z7, z8⟩ := at9_of H_g3.out
  have ly := (H_k3.out 0 _ rfl).lt
  have lz := (H_g3.out 0 _ rfl).lt
  go_wp2_with fail
  (with_reducible refine (H_q4.out _ ?_).mono ?_)
  ·exact H_bb3.out.trans ((show Below w3.heap.size w3 _ from belt).mono H_bb3.out.size)
  rintro e w4 ⟨A4, p4, B4, r4, rfl, pa4, pb4, b4⟩
  have c4 : Below w3.heap.size w3 w4 := Below.trans belt (b4.mono omh)
  have s4 := c4.size
  have bb4 := H_bb3.out.trans (c4.mono H_bb3.out.size)
  have t4 := H_t3.out.below c4
  have k4 := H_k3.out.below c4
  have g4 := H_g3.out.below c4
  have xr4 := H_xr3.out.below c4
  have yr4 := H_yr3.out.below c4
  have ⟨H_b4, H_c4, H_bb4, H_t4, H_k4, H_g4, H_xr4, H_yr4⟩ := hid8 b4 c4 bb4 t4 k4 g4 xr4 yr4; clear b4 c4 bb4 t4 k4 g4 xr4 yr4
  clear ly lz
  have xm4 := H_fM.out.1.is pa4.1
  have ym4 := H_fM.out.2.is pb4.1
  clear pa4 pb4
  have kr4 : Blk w4 w3.heap.size #[.int .i64 R3.d, .int .i64 R3.k, .int .i64 R3.r, .int .i64 R3.x.s, .int .i64 R3.x.c, .slice A3 R3.x.l.length p3, .int .u64 R3.x.u, .int .i64 R3.y.s, .int .i64 R3.y.c, .slice B3 R3.y.l.length r3, .int .u64 R3.y.u, .bool R3.up] := (blk_new rfl).below H_b4.out
  have ⟨H_xm4, H_ym4, H_kr4⟩ := hid3 xm4 ym4 kr4; clear xm4 ym4 kr4
  clear y0 y1 y2 y3 y4 y5 y6 y7 y8 y9 y10 y11
  clear z0 z1 z2 z3 z4 z5 z6 z7 z8
  go_wp2_with fail
  (with_reducible refine (H_q5.out _ A4 p4 B4 r4 ?_ ?_ ?_).mono ?_)
  ·exact H_xm4.out.below (show Below w4.heap.size w4 _ from belt)
  ·exact H_ym4.out.below (show Below w4.heap.size w4 _ from belt)
  ·exact H_t4.out.below (show Below w4.heap.size w4 _ from belt)
  rintro e w5 ⟨rfl, b5⟩
  have c5 : Below w4.heap.size w4 w5 := Below.trans belt (b5.mono omh)
  have s5 := c5.size
  have bb5 := H_bb4.out.trans (c5.mono H_bb4.out.size)
  have t5 := H_t4.out.below c5
  have k5 := H_k4.out.below c5
  have g5 := H_g4.out.below c5
  have xr5 := H_xr4.out.below c5
  have yr5 := H_yr4.out.below c5
  have xm5 := H_xm4.out.below c5
  have ym5 := H_ym4.out.below c5
  have kr5 := H_kr4.out.below c5
  have ⟨H_b5, H_c5, H_bb5, H_t5, H_k5, H_g5, H_xr5, H_yr5⟩ := hid8 b5 c5 bb5 t5 k5 g5 xr5 yr5; clear b5 c5 bb5 t5 k5 g5 xr5 yr5; have ⟨H_xm5, H_ym5, H_kr5⟩ := hid3 xm5 ym5 kr5; clear xm5 ym5 kr5
  have km5 : Blk w5 w4.heap.size #[.int .i64 M.d, .int .i64 M.k, .int .i64 M.r, .int .i64 M.x.s, .int .i64 M.x.c, .slice A4 M.x.l.length p4, .int .u64 M.x.u, .int .i64 M.y.s, .int .i64 M.y.c, .slice B4 M.y.l.length r4, .int .u64 M.y.u, .bool false] := (blk_new rfl).below H_b5.out
  have H_km5 := Lib.hid km5; clear km5
  obtain ⟨y0, y1, y2, y3, y4, y5, y6, y7, y8, y9, y10, y11⟩ := at12_of H_km5.out
  go_wp2_with fail
  (with_reducible refine (H_q6.out _ A4 p4 B4 r4 ?_ ?_).mono ?_)
  ·exact H_xm5.out.below (show Below w5.heap.size w5 _ from belt)
  ·exact H_ym5.out.below (show Below w5.heap.size w5 _ from belt)
  rintro e w6 ⟨rfl, b6⟩
  have c6 : Below w5.heap.size w5 w6 := Below.trans belt (b6.mono omh)
  have s6 := c6.size
  have bb6 := H_bb5.out.trans (c6.mono H_bb5.out.size)
  have t6 := H_t5.out.below c6
  have k6 := H_k5.out.below c6
  have g6 := H_g5.out.below c6
  have xr6 := H_xr5.out.below c6
  have yr6 := H_yr5.out.below c6
  have xm6 := H_xm5.out.below c6
  have ym6 := H_ym5.out.below c6
  have kr6 := H_kr5.out.below c6
  have km6 := H_km5.out.below c6
  have ⟨H_b6, H_c6, H_bb6, H_t6, H_k6, H_g6, H_xr6, H_yr6⟩ := hid8 b6 c6 bb6 t6 k6 g6 xr6 yr6; clear b6 c6 bb6 t6 k6 g6 xr6 yr6; have ⟨H_xm6, H_ym6, H_kr6, H_km6⟩ := hid4 xm6 ym6 kr6 km6; clear xm6 ym6 kr6 km6
  clear y0 y1 y2 y3 y4 y5 y6 y7 y8 y9 y10 y11
  obtain ⟨y0, y1, y2, y3, y4, y5, y6, y7, y8, y9, y10, y11⟩ := at12_of H_km6.out
  obtain ⟨z0, z1, z2, z3, z4, z5, z6, z7, z8⟩ := at9_of H_g6.out
  go_wp2_with fail
  (with_reducible refine (H_q7.out _ A4 p4 B4 r4 ?_ ?_ ?_).mono ?_)
  ·exact H_xm6.out.below (show Below w6.heap.size w6 _ from belt)
  ·exact H_ym6.out.below (show Below w6.heap.size w6 _ from belt)
  ·exact H_t6.out.below (show Below w6.heap.size w6 _ from belt)
  rintro e w7 ⟨A7, p7, B7, r7, rfl, _, _, b7⟩
  have c7 : Below w6.heap.size w6 w7 := Below.trans belt (b7.mono omh)
  have s7 := c7.size
  have bb7 := H_bb6.out.trans (c7.mono H_bb6.out.size)
  have t7 := H_t6.out.below c7
  have k7 := H_k6.out.below c7
  have g7 := H_g6.out.below c7
  have xr7 := H_xr6.out.below c7
  have yr7 := H_yr6.out.below c7
  have xm7 := H_xm6.out.below c7
  have ym7 := H_ym6.out.below c7
  have kr7 := H_kr6.out.below c7
  have km7 := H_km6.out.below c7
  have ⟨H_b7, H_c7, H_bb7, H_t7, H_k7, H_g7, H_xr7, H_yr7⟩ := hid8 b7 c7 bb7 t7 k7 g7 xr7 yr7; clear b7 c7 bb7 t7 k7 g7 xr7 yr7; have ⟨H_xm7, H_ym7, H_kr7, H_km7⟩ := hid4 xm7 ym7 kr7 km7; clear xm7 ym7 kr7 km7
  clear y0 y1 y2 y3 y4 y5 y6 y7 y8 y9 y10 y11
  clear z0 z1 z2 z3 z4 z5 z6 z7 z8
  obtain ⟨y0, y1, y2, y3, y4, y5, y6, y7, y8, y9, y10, y11⟩ := at12_of H_km7.out
  have ly := (H_km7.out 0 _ rfl).lt
  go_wp2_with fail
  (with_reducible refine (H_q8.out _ A4 p4 B4 r4 ?_ ?_ ?_).mono ?_)
  ·exact H_xm7.out.below (show Below w7.heap.size w7 _ from belt)
  ·exact H_ym7.out.below (show Below w7.heap.size w7 _ from belt)
  ·exact H_t7.out.below (show Below w7.heap.size w7 _ from belt)
  rintro e w8 ⟨A8, p8, B8, r8, rfl, pa8, pb8, b8⟩
  have c8 : Below w7.heap.size w7 w8 := Below.trans belt (b8.mono omh)
  have s8 := c8.size
  have bb8 := H_bb7.out.trans (c8.mono H_bb7.out.size)
  have t8 := H_t7.out.below c8
  have k8 := H_k7.out.below c8
  have g8 := H_g7.out.below c8
  have xr8 := H_xr7.out.below c8
  have yr8 := H_yr7.out.below c8
  have xm8 := H_xm7.out.below c8
  have ym8 := H_ym7.out.below c8
  have kr8 := H_kr7.out.below c8
  have km8 := H_km7.out.below c8
  have ⟨H_b8, H_c8, H_bb8, H_t8, H_k8, H_g8, H_xr8, H_yr8⟩ := hid8 b8 c8 bb8 t8 k8 g8 xr8 yr8; clear b8 c8 bb8 t8 k8 g8 xr8 yr8; have ⟨H_xm8, H_ym8, H_kr8, H_km8⟩ := hid4 xm8 ym8 kr8 km8; clear xm8 ym8 kr8 km8
  clear ly
  clear y0 y1 y2 y3 y4 y5 y6 y7 y8 y9 y10 y11
  have xk8 := H_fK.out.1.is pa8.1
  have yk8 := H_fK.out.2.is pb8.1
  clear pa8 pb8
  have ⟨H_xk8, H_yk8⟩ := hid2 xk8 yk8; clear xk8 yk8
  obtain ⟨z0, z1, z2, z3, z4, z5, z6, z7, z8⟩ := at9_of H_g8.out
  have lz := (H_g8.out 0 _ rfl).lt
  go_wp2_with fail
  (with_reducible refine (H_q9.out _ A8 p8 B8 r8 ?_ ?_ ?_).mono ?_)
  ·exact H_xk8.out.below (show Below w8.heap.size w8 _ from belt)
  ·exact H_yk8.out.below (show Below w8.heap.size w8 _ from belt)
  ·exact H_t8.out.below (show Below w8.heap.size w8 _ from belt)
  rintro e w9 ⟨A9, p9, B9, r9, rfl, pa9, pb9, b9⟩
  have c9 : Below w8.heap.size w8 w9 := Below.trans belt (b9.mono omh)
  have s9 := c9.size
  have bb9 := H_bb8.out.trans (c9.mono H_bb8.out.size)
  have t9 := H_t8.out.below c9
  have k9 := H_k8.out.below c9
  have g9 := H_g8.out.below c9
  have xr9 := H_xr8.out.below c9
  have yr9 := H_yr8.out.below c9
  have xm9 := H_xm8.out.below c9
  have ym9 := H_ym8.out.below c9
  have kr9 := H_kr8.out.below c9
  have km9 := H_km8.out.below c9
  have ⟨H_b9, H_c9, H_bb9, H_t9, H_k9, H_g9, H_xr9, H_yr9⟩ := hid8 b9 c9 bb9 t9 k9 g9 xr9 yr9; clear b9 c9 bb9 t9 k9 g9 xr9 yr9; have ⟨H_xm9, H_ym9, H_kr9, H_km9⟩ := hid4 xm9 ym9 kr9 km9; clear xm9 ym9 kr9 km9
  clear lz
  clear z0 z1 z2 z3 z4 z5 z6 z7 z8
  have xn9 := H_fN.out.1.is pa9.1
  have yn9 := H_fN.out.2.is pb9.1
  clear pa9 pb9
  have ⟨H_xn9, H_yn9⟩ := hid2 xn9 yn9; clear xn9 yn9
  go_wp2_with fail
  (with_reducible refine (H_q10.out _ A9 p9 B9 r9 ?_ ?_).mono ?_)
  ·exact H_xn9.out.below (show Below w9.heap.size w9 _ from belt)
  ·exact H_yn9.out.below (show Below w9.heap.size w9 _ from belt)
  rintro e w10 ⟨rfl, b10⟩
  have c10 : Below w9.heap.size w9 w10 := Below.trans belt (b10.mono omh)
  have s10 := c10.size
  have bb10 := H_bb9.out.trans (c10.mono H_bb9.out.size)
  have t10 := H_t9.out.below c10
  have k10 := H_k9.out.below c10
  have xr10 := H_xr9.out.below c10
  have yr10 := H_yr9.out.below c10
  have xm10 := H_xm9.out.below c10
  have ym10 := H_ym9.out.below c10
  have kr10 := H_kr9.out.below c10
  have km10 := H_km9.out.below c10
  have xn10 := H_xn9.out.below c10
  have yn10 := H_yn9.out.below c10
  have ⟨H_b10, H_c10, H_bb10, H_t10, H_k10, H_xr10, H_yr10, H_xm10⟩ := hid8 b10 c10 bb10 t10 k10 xr10 yr10 xm10; clear b10 c10 bb10 t10 k10 xr10 yr10 xm10; have ⟨H_ym10, H_kr10, H_km10, H_xn10, H_yn10⟩ := hid5 ym10 kr10 km10 xn10 yn10; clear ym10 kr10 km10 xn10 yn10
  have kn10 : Blk w10 w9.heap.size #[.int .i64 N.d, .int .i64 N.k, .int .i64 N.r, .int .i64 N.x.s, .int .i64 N.x.c, .slice A9 N.x.l.length p9, .int .u64 N.x.u, .int .i64 N.y.s, .int .i64 N.y.c, .slice B9 N.y.l.length r9, .int .u64 N.y.u, .bool N.up] := (blk_new rfl).below H_b10.out
  obtain ⟨K2, t2, sm10, q12⟩ := H_qkM.out w10 A4 p4 B4 r4 H_xm10.out H_ym10.out
  obtain ⟨K3, t3, sr10, q15⟩ := H_qkR.out w10 A3 p3 B3 r3 H_xr10.out H_yr10.out
  obtain ⟨K4, t4, sn10, q16⟩ := H_qkN.out w10 A9 p9 B9 r9 H_xn10.out H_yn10.out
  have sl10 := H_sl1.out.below H_bb10.out
  have ⟨H_kn10, H_sm10, H_sr10, H_sn10, H_sl10, H_q12, H_q15, H_q16⟩ := hid8 kn10 sm10 sr10 sn10 sl10 q12 q15 q16; clear kn10 sm10 sr10 sn10 sl10 q12 q15 q16
  go_upto_region 16 with (fail)
  obtain ⟨y0, y1, y2, y3, y4, y5, y6, y7, y8, y9, y10, y11⟩ := at12_of H_k10.out
  obtain ⟨v0, v1, v2, v3, v4, v5, v6, v7, v8, v9, v10, v11⟩ := at12_of H_km10.out
  have ly := (H_k10.out 0 _ rfl).lt
  have lv := (H_km10.out 0 _ rfl).lt
  go_cut [25, 26] from 125 to 128 (fun c25 c26 wx => ∃ g h : Nat, c25 = .pointer (some ⟨g, 0, none⟩) ∧ c26 = .pointer (some ⟨h, 0, none⟩) ∧ Two w10 wx g h #[.int .i64 sl.s, .int .i64 sl.c, .slice K1 sl.l.length t1, .int .u64 sl.u] #[.int .i64 sM.s, .int .i64 sM.c, .slice K2 sM.l.length t2, .int .u64 sM.u])
  case first =>
   refine wp_region_held_drew (S := (fun W => (∀ b o, b < w10.heap.size → W.cell? ⟨b, o, none⟩ = w10.cell? ⟨b, o, none⟩) ∧ Below w10.heap.size w10 W)) (by kernel_rfl) ?_ (fun hHeld => ?_)
   ·(try dsimp only); (first | (refine ext_mk ?_; exact belt))
   refine take_at (i := 0) (some 125) rfl rfl (by kernel_rfl) (fun _ _ _ h => h) (by rfl) (v := ?_) ?_ (by assumption) ?_
   rotate_left
   ·intro W hSw; (try dsimp only at hSw); go_simp; (try with_reducible rfl)
   (try simp only [Act.put, List.setIfInBounds_toArray, List.set_cons_zero, List.set_cons_succ])
   refine take_at (i := 2) (some 127) rfl rfl (by kernel_rfl) (fun _ _ _ h => h) (by rfl) (v := ?_) ?_ (by assumption) ?_
   rotate_left
   ·intro W hSw; (try dsimp only at hSw); go_simp; (try with_reducible rfl)
   (try simp only [Act.put, List.setIfInBounds_toArray, List.set_cons_zero, List.set_cons_succ])
   refine wpAnyH_ready (rs := [1, 4, 5]) (by kernel_rfl) (by simp) ?_
   refine AllReadyH.cons rfl (fun K hK => ?_) (AllReadyH.cons rfl (fun K hK => ?_) (AllReadyH.cons rfl (fun K hK => ?_) AllReadyH.nil))
   ·go_simp
    (go_at_call 30; (with_reducible refine (H_q11.out _ ?_).mono ?_); (focus (exact H_bb10.out.trans ((And.right (by assumption : _ ∧ Below w10.heap.size w10 _)).mono H_bb10.out.size))); rintro e w11 ⟨rfl, hbw11⟩; have gw11 := Below.trans (And.right (by assumption : _ ∧ Below w10.heap.size w10 _)) (hbw11.mono (Below.size (And.right (by assumption : _ ∧ Below w10.heap.size w10 _)))); have gsw11 := gw11.size; have hcf := bcell hbw11; have hcw11 := hcf.1; have hfw11 := hcf.2; have hsw11 := hbw11.size; (try simp only [World.size_alloc, World.heap_drewN, heap_drew] at hsw11); have H_hbw11 := Lib.hid hbw11; clear hbw11 hcf; (try have hzw11 : w10.heap.size < w11.heap.size := by omega))
    refine hK.out _ _ ?_ (fun hHeld => ?_)
    ·(try dsimp only); (first | (refine ext_mk ?_; exact belt))
    clear hK K
    (try simp only [Act.put, List.setIfInBounds_toArray, List.set_cons_zero, List.set_cons_succ])
    refine wpAnyH_ready (rs := [3, 4, 5]) (by kernel_rfl) (by simp) ?_
    refine AllReadyH.cons rfl (fun K hK => ?_) (AllReadyH.cons rfl (fun K hK => ?_) (AllReadyH.cons rfl (fun K hK => ?_) AllReadyH.nil))
    ·go_simp
     ((go_at_call 30; (with_reducible refine (H_q12.out _ ?_).mono ?_); (focus (exact (And.right (by assumption : _ ∧ Below w10.heap.size w10 _)))); rintro e w12 ⟨rfl, hbw12⟩; have gw12 := Below.trans (And.right (by assumption : _ ∧ Below w10.heap.size w10 _)) (hbw12.mono (Below.size (And.right (by assumption : _ ∧ Below w10.heap.size w10 _)))); have gsw12 := gw12.size; have hcf := bcell hbw12; have hcw12 := hcf.1; have hfw12 := hcf.2; have hsw12 := hbw12.size; (try simp only [World.size_alloc, World.heap_drewN, heap_drew] at hsw12); have H_hbw12 := Lib.hid hbw12; clear hbw12 hcf; (try have hzw12 : w10.heap.size < w12.heap.size := by omega)); (try have hzA : w11.heap.size < w12.heap.size := by omega); (try have hzB : w10.heap.size + 1 < w11.heap.size := by omega); (try have hzC : w10.heap.size + 1 < w12.heap.size := by omega); (try have hzD : w11.heap.size + 1 < w12.heap.size := by omega))
     refine hK.out _ _ ?_ (fun hHeld => ?_)
     ·(try dsimp only); (first | (refine ext_mk ?_; exact belt))
     clear hK K
     (try simp only [Act.put, List.setIfInBounds_toArray, List.set_cons_zero, List.set_cons_succ])
     refine wpAnyH_ready (rs := [4, 5]) (by kernel_rfl) (by simp) ?_
     refine AllReadyH.cons rfl (fun K hK => ?_) (AllReadyH.cons rfl (fun K hK => ?_) AllReadyH.nil)
     ·go_simp
      refine hK.out _ _ ?_ (fun hHeld => ?_)
      ·(try dsimp only); (first | (refine ext_mk ?_; exact belt))
      clear hK K
      (try simp only [Act.put, List.setIfInBounds_toArray, List.set_cons_zero, List.set_cons_succ])
      refine wpAnyH_ready (rs := [5]) (by kernel_rfl) (by simp) ?_
      refine AllReadyH.cons rfl (fun K hK => ?_) AllReadyH.nil
      ·go_simp
       refine hK.out _ _ ?_ (fun hHeld => ?_)
       ·(try dsimp only); (first | (refine ext_mk ?_; exact belt))
       clear hK K
       (try simp only [Act.put, List.setIfInBounds_toArray, List.set_cons_zero, List.set_cons_succ])
       refine wpAnyH_ready (rs := [6]) (by kernel_rfl) (by simp) ?_
       refine AllReadyH.cons rfl (fun K hK => ?_) AllReadyH.nil
       ·go_simp
        refine hK.out _ _ ?_ (fun hHeld => ?_)
        ·(try dsimp only); (first | (refine ext_mk ?_; exact belt))
        clear hK K
        (try simp only [Act.put, List.setIfInBounds_toArray, List.set_cons_zero, List.set_cons_succ])
        refine wpAnyH_ready (rs := [7]) (by kernel_rfl) (by simp) ?_
        refine AllReadyH.cons rfl (fun K hK => ?_) AllReadyH.nil
        ·go_simp
         refine hK.out _ _ ?_ (fun hHeld => ?_)
         ·(try dsimp only); (first | (refine ext_mk ?_; exact belt))
         clear hK K
         (try simp only [Act.put, List.setIfInBounds_toArray, List.set_cons_zero, List.set_cons_succ])
         refine wpAnyH_done (by kernel_rfl) ?_ _
         (go_wp2_with fail; go_meet; (case rel => exact ⟨_, _, rfl, rfl, by with_reducible exact two_nn gw12⟩))
     ·go_simp
      refine hK.out _ _ ?_ (fun hHeld => ?_)
      ·(try dsimp only); (first | (refine ext_mk ?_; exact belt))
      clear hK K
      (try simp only [Act.put, List.setIfInBounds_toArray, List.set_cons_zero, List.set_cons_succ])
      refine wpAnyH_ready (rs := [4]) (by kernel_rfl) (by simp) ?_
      refine AllReadyH.cons rfl (fun K hK => ?_) AllReadyH.nil
      ·go_simp
       refine hK.out _ _ ?_ (fun hHeld => ?_)
       ·(try dsimp only); (first | (refine ext_mk ?_; exact belt))
       clear hK K
       (try simp only [Act.put, List.setIfInBounds_toArray, List.set_cons_zero, List.set_cons_succ])
       refine wpAnyH_ready (rs := [6]) (by kernel_rfl) (by simp) ?_
       refine AllReadyH.cons rfl (fun K hK => ?_) AllReadyH.nil
       ·go_simp
        refine hK.out _ _ ?_ (fun hHeld => ?_)
        ·(try dsimp only); (first | (refine ext_mk ?_; exact belt))
        clear hK K
        (try simp only [Act.put, List.setIfInBounds_toArray, List.set_cons_zero, List.set_cons_succ])
        refine wpAnyH_ready (rs := [7]) (by kernel_rfl) (by simp) ?_
        refine AllReadyH.cons rfl (fun K hK => ?_) AllReadyH.nil
        ·go_simp
         refine hK.out _ _ ?_ (fun hHeld => ?_)
         ·(try dsimp only); (first | (refine ext_mk ?_; exact belt))
         clear hK K
         (try simp only [Act.put, List.setIfInBounds_toArray, List.set_cons_zero, List.set_cons_succ])
         refine wpAnyH_done (by kernel_rfl) ?_ _
         (go_wp2_with fail; go_meet; (case rel => exact ⟨_, _, rfl, rfl, by with_reducible exact two_nn' gw12⟩))
    ·go_simp
     refine hK.out _ _ ?_ (fun hHeld => ?_)
     ·(try dsimp only); (first | (refine ext_mk ?_; exact belt))
     clear hK K
     (try simp only [Act.put, List.setIfInBounds_toArray, List.set_cons_zero, List.set_cons_succ])
     refine wpAnyH_ready (rs := [3, 5]) (by kernel_rfl) (by simp) ?_
     refine AllReadyH.cons rfl (fun K hK => ?_) (AllReadyH.cons rfl (fun K hK => ?_) AllReadyH.nil)
     ·go_simp
      ((go_at_call 30; (with_reducible refine (H_q12.out _ ?_).mono ?_); (focus (exact (And.right (by assumption : _ ∧ Below w10.heap.size w10 _)))); rintro e w12 ⟨rfl, hbw12⟩; have gw12 := Below.trans (And.right (by assumption : _ ∧ Below w10.heap.size w10 _)) (hbw12.mono (Below.size (And.right (by assumption : _ ∧ Below w10.heap.size w10 _)))); have gsw12 := gw12.size; have hcf := bcell hbw12; have hcw12 := hcf.1; have hfw12 := hcf.2; have hsw12 := hbw12.size; (try simp only [World.size_alloc, World.heap_drewN, heap_drew] at hsw12); have H_hbw12 := Lib.hid hbw12; clear hbw12 hcf; (try have hzw12 : w10.heap.size < w12.heap.size := by omega)); (try have hzA : w11.heap.size < w12.heap.size := by omega); (try have hzB : w10.heap.size + 1 < w11.heap.size := by omega); (try have hzC : w10.heap.size + 1 < w12.heap.size := by omega); (try have hzD : w11.heap.size + 1 < w12.heap.size := by omega))
      refine hK.out _ _ ?_ (fun hHeld => ?_)
      ·(try dsimp only); (first | (refine ext_mk ?_; exact belt))
      clear hK K
      (try simp only [Act.put, List.setIfInBounds_toArray, List.set_cons_zero, List.set_cons_succ])
      refine wpAnyH_ready (rs := [5]) (by kernel_rfl) (by simp) ?_
      refine AllReadyH.cons rfl (fun K hK => ?_) AllReadyH.nil
      ·go_simp
       refine hK.out _ _ ?_ (fun hHeld => ?_)
       ·(try dsimp only); (first | (refine ext_mk ?_; exact belt))
       clear hK K
       (try simp only [Act.put, List.setIfInBounds_toArray, List.set_cons_zero, List.set_cons_succ])
       refine wpAnyH_ready (rs := [6]) (by kernel_rfl) (by simp) ?_
       refine AllReadyH.cons rfl (fun K hK => ?_) AllReadyH.nil
       ·go_simp
        refine hK.out _ _ ?_ (fun hHeld => ?_)
        ·(try dsimp only); (first | (refine ext_mk ?_; exact belt))
        clear hK K
        (try simp only [Act.put, List.setIfInBounds_toArray, List.set_cons_zero, List.set_cons_succ])
        refine wpAnyH_ready (rs := [7]) (by kernel_rfl) (by simp) ?_
        refine AllReadyH.cons rfl (fun K hK => ?_) AllReadyH.nil
        ·go_simp
         refine hK.out _ _ ?_ (fun hHeld => ?_)
         ·(try dsimp only); (first | (refine ext_mk ?_; exact belt))
         clear hK K
         (try simp only [Act.put, List.setIfInBounds_toArray, List.set_cons_zero, List.set_cons_succ])
         refine wpAnyH_done (by kernel_rfl) ?_ _
         (go_wp2_with fail; go_meet; (case rel => exact ⟨_, _, rfl, rfl, by with_reducible exact two_on ((blk_new rfl).below H_hbw12.out) (by first | omega | (simp; omega)) gw12⟩))
     ·go_simp
      refine hK.out _ _ ?_ (fun hHeld => ?_)
      ·(try dsimp only); (first | (refine ext_mk ?_; exact belt))
      clear hK K
      (try simp only [Act.put, List.setIfInBounds_toArray, List.set_cons_zero, List.set_cons_succ])
      refine wpAnyH_ready (rs := [3]) (by kernel_rfl) (by simp) ?_
      refine AllReadyH.cons rfl (fun K hK => ?_) AllReadyH.nil
      ·go_simp
       ((go_at_call 30; (with_reducible refine (H_q12.out _ ?_).mono ?_); (focus (exact (And.right (by assumption : _ ∧ Below w10.heap.size w10 _)))); rintro e w12 ⟨rfl, hbw12⟩; have gw12 := Below.trans (And.right (by assumption : _ ∧ Below w10.heap.size w10 _)) (hbw12.mono (Below.size (And.right (by assumption : _ ∧ Below w10.heap.size w10 _)))); have gsw12 := gw12.size; have hcf := bcell hbw12; have hcw12 := hcf.1; have hfw12 := hcf.2; have hsw12 := hbw12.size; (try simp only [World.size_alloc, World.heap_drewN, heap_drew] at hsw12); have H_hbw12 := Lib.hid hbw12; clear hbw12 hcf; (try have hzw12 : w10.heap.size < w12.heap.size := by omega)); (try have hzA : w11.heap.size < w12.heap.size := by omega); (try have hzB : w10.heap.size + 1 < w11.heap.size := by omega); (try have hzC : w10.heap.size + 1 < w12.heap.size := by omega); (try have hzD : w11.heap.size + 1 < w12.heap.size := by omega))
       refine hK.out _ _ ?_ (fun hHeld => ?_)
       ·(try dsimp only); (first | (refine ext_mk ?_; exact belt))
       clear hK K
       (try simp only [Act.put, List.setIfInBounds_toArray, List.set_cons_zero, List.set_cons_succ])
       refine wpAnyH_ready (rs := [6]) (by kernel_rfl) (by simp) ?_
       refine AllReadyH.cons rfl (fun K hK => ?_) AllReadyH.nil
       ·go_simp
        refine hK.out _ _ ?_ (fun hHeld => ?_)
        ·(try dsimp only); (first | (refine ext_mk ?_; exact belt))
        clear hK K
        (try simp only [Act.put, List.setIfInBounds_toArray, List.set_cons_zero, List.set_cons_succ])
        refine wpAnyH_ready (rs := [7]) (by kernel_rfl) (by simp) ?_
        refine AllReadyH.cons rfl (fun K hK => ?_) AllReadyH.nil
        ·go_simp
         refine hK.out _ _ ?_ (fun hHeld => ?_)
         ·(try dsimp only); (first | (refine ext_mk ?_; exact belt))
         clear hK K
         (try simp only [Act.put, List.setIfInBounds_toArray, List.set_cons_zero, List.set_cons_succ])
         refine wpAnyH_done (by kernel_rfl) ?_ _
         (go_wp2_with fail; go_meet; (case rel => exact ⟨_, _, rfl, rfl, by with_reducible exact two_oo (((blk_new rfl).alloc _).below H_hbw12.out) ((blk_new (by simp)).below H_hbw12.out) (by first | omega | (simp; omega)) (by first | omega | (simp; omega)) (by first | omega | (simp; omega)) gw12⟩))
    ·go_simp
     refine hK.out _ _ ?_ (fun hHeld => ?_)
     ·(try dsimp only); (first | (refine ext_mk ?_; exact belt))
     clear hK K
     (try simp only [Act.put, List.setIfInBounds_toArray, List.set_cons_zero, List.set_cons_succ])
     refine wpAnyH_ready (rs := [3, 4]) (by kernel_rfl) (by simp) ?_
     refine AllReadyH.cons rfl (fun K hK => ?_) (AllReadyH.cons rfl (fun K hK => ?_) AllReadyH.nil)
     ·go_simp
      ((go_at_call 30; (with_reducible refine (H_q12.out _ ?_).mono ?_); (focus (exact (And.right (by assumption : _ ∧ Below w10.heap.size w10 _)))); rintro e w12 ⟨rfl, hbw12⟩; have gw12 := Below.trans (And.right (by assumption : _ ∧ Below w10.heap.size w10 _)) (hbw12.mono (Below.size (And.right (by assumption : _ ∧ Below w10.heap.size w10 _)))); have gsw12 := gw12.size; have hcf := bcell hbw12; have hcw12 := hcf.1; have hfw12 := hcf.2; have hsw12 := hbw12.size; (try simp only [World.size_alloc, World.heap_drewN, heap_drew] at hsw12); have H_hbw12 := Lib.hid hbw12; clear hbw12 hcf; (try have hzw12 : w10.heap.size < w12.heap.size := by omega)); (try have hzA : w11.heap.size < w12.heap.size := by omega); (try have hzB : w10.heap.size + 1 < w11.heap.size := by omega); (try have hzC : w10.heap.size + 1 < w12.heap.size := by omega); (try have hzD : w11.heap.size + 1 < w12.heap.size := by omega))
      refine hK.out _ _ ?_ (fun hHeld => ?_)
      ·(try dsimp only); (first | (refine ext_mk ?_; exact belt))
      clear hK K
      (try simp only [Act.put, List.setIfInBounds_toArray, List.set_cons_zero, List.set_cons_succ])
      refine wpAnyH_ready (rs := [4]) (by kernel_rfl) (by simp) ?_
      refine AllReadyH.cons rfl (fun K hK => ?_) AllReadyH.nil
      ·go_simp
       refine hK.out _ _ ?_ (fun hHeld => ?_)
       ·(try dsimp only); (first | (refine ext_mk ?_; exact belt))
       clear hK K
       (try simp only [Act.put, List.setIfInBounds_toArray, List.set_cons_zero, List.set_cons_succ])
       refine wpAnyH_ready (rs := [6]) (by kernel_rfl) (by simp) ?_
       refine AllReadyH.cons rfl (fun K hK => ?_) AllReadyH.nil
       ·go_simp
        refine hK.out _ _ ?_ (fun hHeld => ?_)
        ·(try dsimp only); (first | (refine ext_mk ?_; exact belt))
        clear hK K
        (try simp only [Act.put, List.setIfInBounds_toArray, List.set_cons_zero, List.set_cons_succ])
        refine wpAnyH_ready (rs := [7]) (by kernel_rfl) (by simp) ?_
        refine AllReadyH.cons rfl (fun K hK => ?_) AllReadyH.nil
        ·go_simp
         refine hK.out _ _ ?_ (fun hHeld => ?_)
         ·(try dsimp only); (first | (refine ext_mk ?_; exact belt))
         clear hK K
         (try simp only [Act.put, List.setIfInBounds_toArray, List.set_cons_zero, List.set_cons_succ])
         refine wpAnyH_done (by kernel_rfl) ?_ _
         (go_wp2_with fail; go_meet; (case rel => exact ⟨_, _, rfl, rfl, by with_reducible exact two_no ((blk_new rfl).below H_hbw12.out) (by first | omega | (simp; omega)) gw12⟩))
     ·go_simp
      refine hK.out _ _ ?_ (fun hHeld => ?_)
      ·(try dsimp only); (first | (refine ext_mk ?_; exact belt))
      clear hK K
      (try simp only [Act.put, List.setIfInBounds_toArray, List.set_cons_zero, List.set_cons_succ])
      refine wpAnyH_ready (rs := [3]) (by kernel_rfl) (by simp) ?_
      refine AllReadyH.cons rfl (fun K hK => ?_) AllReadyH.nil
      ·go_simp
       ((go_at_call 30; (with_reducible refine (H_q12.out _ ?_).mono ?_); (focus (exact (And.right (by assumption : _ ∧ Below w10.heap.size w10 _)))); rintro e w12 ⟨rfl, hbw12⟩; have gw12 := Below.trans (And.right (by assumption : _ ∧ Below w10.heap.size w10 _)) (hbw12.mono (Below.size (And.right (by assumption : _ ∧ Below w10.heap.size w10 _)))); have gsw12 := gw12.size; have hcf := bcell hbw12; have hcw12 := hcf.1; have hfw12 := hcf.2; have hsw12 := hbw12.size; (try simp only [World.size_alloc, World.heap_drewN, heap_drew] at hsw12); have H_hbw12 := Lib.hid hbw12; clear hbw12 hcf; (try have hzw12 : w10.heap.size < w12.heap.size := by omega)); (try have hzA : w11.heap.size < w12.heap.size := by omega); (try have hzB : w10.heap.size + 1 < w11.heap.size := by omega); (try have hzC : w10.heap.size + 1 < w12.heap.size := by omega); (try have hzD : w11.heap.size + 1 < w12.heap.size := by omega))
       refine hK.out _ _ ?_ (fun hHeld => ?_)
       ·(try dsimp only); (first | (refine ext_mk ?_; exact belt))
       clear hK K
       (try simp only [Act.put, List.setIfInBounds_toArray, List.set_cons_zero, List.set_cons_succ])
       refine wpAnyH_ready (rs := [6]) (by kernel_rfl) (by simp) ?_
       refine AllReadyH.cons rfl (fun K hK => ?_) AllReadyH.nil
       ·go_simp
        refine hK.out _ _ ?_ (fun hHeld => ?_)
        ·(try dsimp only); (first | (refine ext_mk ?_; exact belt))
        clear hK K
        (try simp only [Act.put, List.setIfInBounds_toArray, List.set_cons_zero, List.set_cons_succ])
        refine wpAnyH_ready (rs := [7]) (by kernel_rfl) (by simp) ?_
        refine AllReadyH.cons rfl (fun K hK => ?_) AllReadyH.nil
        ·go_simp
         refine hK.out _ _ ?_ (fun hHeld => ?_)
         ·(try dsimp only); (first | (refine ext_mk ?_; exact belt))
         clear hK K
         (try simp only [Act.put, List.setIfInBounds_toArray, List.set_cons_zero, List.set_cons_succ])
         refine wpAnyH_done (by kernel_rfl) ?_ _
         (go_wp2_with fail; go_meet; (case rel => exact ⟨_, _, rfl, rfl, by with_reducible exact two_oo ((blk_new (by simp)).below H_hbw12.out) (((blk_new rfl).alloc _).below H_hbw12.out) (by first | omega | (simp; omega)) (by first | omega | (simp; omega)) (by first | omega | (simp; omega)) gw12⟩))
   ·go_simp
    refine hK.out _ _ ?_ (fun hHeld => ?_)
    ·(try dsimp only); (first | (refine ext_mk ?_; exact belt))
    clear hK K
    (try simp only [Act.put, List.setIfInBounds_toArray, List.set_cons_zero, List.set_cons_succ])
    refine wpAnyH_ready (rs := [1, 5]) (by kernel_rfl) (by simp) ?_
    refine AllReadyH.cons rfl (fun K hK => ?_) (AllReadyH.cons rfl (fun K hK => ?_) AllReadyH.nil)
    ·go_simp
     (go_at_call 30; (with_reducible refine (H_q11.out _ ?_).mono ?_); (focus (exact H_bb10.out.trans ((And.right (by assumption : _ ∧ Below w10.heap.size w10 _)).mono H_bb10.out.size))); rintro e w11 ⟨rfl, hbw11⟩; have gw11 := Below.trans (And.right (by assumption : _ ∧ Below w10.heap.size w10 _)) (hbw11.mono (Below.size (And.right (by assumption : _ ∧ Below w10.heap.size w10 _)))); have gsw11 := gw11.size; have hcf := bcell hbw11; have hcw11 := hcf.1; have hfw11 := hcf.2; have hsw11 := hbw11.size; (try simp only [World.size_alloc, World.heap_drewN, heap_drew] at hsw11); have H_hbw11 := Lib.hid hbw11; clear hbw11 hcf; (try have hzw11 : w10.heap.size < w11.heap.size := by omega))
     refine hK.out _ _ ?_ (fun hHeld => ?_)
     ·(try dsimp only); (first | (refine ext_mk ?_; exact belt))
     clear hK K
     (try simp only [Act.put, List.setIfInBounds_toArray, List.set_cons_zero, List.set_cons_succ])
     refine wpAnyH_ready (rs := [3, 5]) (by kernel_rfl) (by simp) ?_
     refine AllReadyH.cons rfl (fun K hK => ?_) (AllReadyH.cons rfl (fun K hK => ?_) AllReadyH.nil)
     ·go_simp
      ((go_at_call 30; (with_reducible refine (H_q12.out _ ?_).mono ?_); (focus (exact (And.right (by assumption : _ ∧ Below w10.heap.size w10 _)))); rintro e w12 ⟨rfl, hbw12⟩; have gw12 := Below.trans (And.right (by assumption : _ ∧ Below w10.heap.size w10 _)) (hbw12.mono (Below.size (And.right (by assumption : _ ∧ Below w10.heap.size w10 _)))); have gsw12 := gw12.size; have hcf := bcell hbw12; have hcw12 := hcf.1; have hfw12 := hcf.2; have hsw12 := hbw12.size; (try simp only [World.size_alloc, World.heap_drewN, heap_drew] at hsw12); have H_hbw12 := Lib.hid hbw12; clear hbw12 hcf; (try have hzw12 : w10.heap.size < w12.heap.size := by omega)); (try have hzA : w11.heap.size < w12.heap.size := by omega); (try have hzB : w10.heap.size + 1 < w11.heap.size := by omega); (try have hzC : w10.heap.size + 1 < w12.heap.size := by omega); (try have hzD : w11.heap.size + 1 < w12.heap.size := by omega))
      refine hK.out _ _ ?_ (fun hHeld => ?_)
      ·(try dsimp only); (first | (refine ext_mk ?_; exact belt))
      clear hK K
      (try simp only [Act.put, List.setIfInBounds_toArray, List.set_cons_zero, List.set_cons_succ])
      refine wpAnyH_ready (rs := [5]) (by kernel_rfl) (by simp) ?_
      refine AllReadyH.cons rfl (fun K hK => ?_) AllReadyH.nil
      ·go_simp
       refine hK.out _ _ ?_ (fun hHeld => ?_)
       ·(try dsimp only); (first | (refine ext_mk ?_; exact belt))
       clear hK K
       (try simp only [Act.put, List.setIfInBounds_toArray, List.set_cons_zero, List.set_cons_succ])
       refine wpAnyH_ready (rs := [6]) (by kernel_rfl) (by simp) ?_
       refine AllReadyH.cons rfl (fun K hK => ?_) AllReadyH.nil
       ·go_simp
        refine hK.out _ _ ?_ (fun hHeld => ?_)
        ·(try dsimp only); (first | (refine ext_mk ?_; exact belt))
        clear hK K
        (try simp only [Act.put, List.setIfInBounds_toArray, List.set_cons_zero, List.set_cons_succ])
        refine wpAnyH_ready (rs := [7]) (by kernel_rfl) (by simp) ?_
        refine AllReadyH.cons rfl (fun K hK => ?_) AllReadyH.nil
        ·go_simp
         refine hK.out _ _ ?_ (fun hHeld => ?_)
         ·(try dsimp only); (first | (refine ext_mk ?_; exact belt))
         clear hK K
         (try simp only [Act.put, List.setIfInBounds_toArray, List.set_cons_zero, List.set_cons_succ])
         refine wpAnyH_done (by kernel_rfl) ?_ _
         (go_wp2_with fail; go_meet; (case rel => exact ⟨_, _, rfl, rfl, by with_reducible exact two_on ((((blk_new rfl).below (Below.refl _ _).drew).below H_hbw11.out).below H_hbw12.out) (by first | omega | (simp; omega)) gw12⟩))
     ·go_simp
      refine hK.out _ _ ?_ (fun hHeld => ?_)
      ·(try dsimp only); (first | (refine ext_mk ?_; exact belt))
      clear hK K
      (try simp only [Act.put, List.setIfInBounds_toArray, List.set_cons_zero, List.set_cons_succ])
      refine wpAnyH_ready (rs := [3]) (by kernel_rfl) (by simp) ?_
      refine AllReadyH.cons rfl (fun K hK => ?_) AllReadyH.nil
      ·go_simp
       ((go_at_call 30; (with_reducible refine (H_q12.out _ ?_).mono ?_); (focus (exact (And.right (by assumption : _ ∧ Below w10.heap.size w10 _)))); rintro e w12 ⟨rfl, hbw12⟩; have gw12 := Below.trans (And.right (by assumption : _ ∧ Below w10.heap.size w10 _)) (hbw12.mono (Below.size (And.right (by assumption : _ ∧ Below w10.heap.size w10 _)))); have gsw12 := gw12.size; have hcf := bcell hbw12; have hcw12 := hcf.1; have hfw12 := hcf.2; have hsw12 := hbw12.size; (try simp only [World.size_alloc, World.heap_drewN, heap_drew] at hsw12); have H_hbw12 := Lib.hid hbw12; clear hbw12 hcf; (try have hzw12 : w10.heap.size < w12.heap.size := by omega)); (try have hzA : w11.heap.size < w12.heap.size := by omega); (try have hzB : w10.heap.size + 1 < w11.heap.size := by omega); (try have hzC : w10.heap.size + 1 < w12.heap.size := by omega); (try have hzD : w11.heap.size + 1 < w12.heap.size := by omega))
       refine hK.out _ _ ?_ (fun hHeld => ?_)
       ·(try dsimp only); (first | (refine ext_mk ?_; exact belt))
       clear hK K
       (try simp only [Act.put, List.setIfInBounds_toArray, List.set_cons_zero, List.set_cons_succ])
       refine wpAnyH_ready (rs := [6]) (by kernel_rfl) (by simp) ?_
       refine AllReadyH.cons rfl (fun K hK => ?_) AllReadyH.nil
       ·go_simp
        refine hK.out _ _ ?_ (fun hHeld => ?_)
        ·(try dsimp only); (first | (refine ext_mk ?_; exact belt))
        clear hK K
        (try simp only [Act.put, List.setIfInBounds_toArray, List.set_cons_zero, List.set_cons_succ])
        refine wpAnyH_ready (rs := [7]) (by kernel_rfl) (by simp) ?_
        refine AllReadyH.cons rfl (fun K hK => ?_) AllReadyH.nil
        ·go_simp
         refine hK.out _ _ ?_ (fun hHeld => ?_)
         ·(try dsimp only); (first | (refine ext_mk ?_; exact belt))
         clear hK K
         (try simp only [Act.put, List.setIfInBounds_toArray, List.set_cons_zero, List.set_cons_succ])
         refine wpAnyH_done (by kernel_rfl) ?_ _
         (go_wp2_with fail; go_meet; (case rel => exact ⟨_, _, rfl, rfl, by with_reducible exact two_oo (((((blk_new rfl).below (Below.refl _ _).drew).below H_hbw11.out).alloc _).below H_hbw12.out) ((blk_new rfl).below H_hbw12.out) (by first | omega | (simp; omega)) (by first | omega | (simp; omega)) (by first | omega | (simp; omega)) gw12⟩))
    ·go_simp
     refine hK.out _ _ ?_ (fun hHeld => ?_)
     ·(try dsimp only); (first | (refine ext_mk ?_; exact belt))
     clear hK K
     (try simp only [Act.put, List.setIfInBounds_toArray, List.set_cons_zero, List.set_cons_succ])
     refine wpAnyH_ready (rs := [1]) (by kernel_rfl) (by simp) ?_
     refine AllReadyH.cons rfl (fun K hK => ?_) AllReadyH.nil
     ·go_simp
      (go_at_call 30; (with_reducible refine (H_q11.out _ ?_).mono ?_); (focus (exact H_bb10.out.trans ((And.right (by assumption : _ ∧ Below w10.heap.size w10 _)).mono H_bb10.out.size))); rintro e w11 ⟨rfl, hbw11⟩; have gw11 := Below.trans (And.right (by assumption : _ ∧ Below w10.heap.size w10 _)) (hbw11.mono (Below.size (And.right (by assumption : _ ∧ Below w10.heap.size w10 _)))); have gsw11 := gw11.size; have hcf := bcell hbw11; have hcw11 := hcf.1; have hfw11 := hcf.2; have hsw11 := hbw11.size; (try simp only [World.size_alloc, World.heap_drewN, heap_drew] at hsw11); have H_hbw11 := Lib.hid hbw11; clear hbw11 hcf; (try have hzw11 : w10.heap.size < w11.heap.size := by omega))
      refine hK.out _ _ ?_ (fun hHeld => ?_)
      ·(try dsimp only); (first | (refine ext_mk ?_; exact belt))
      clear hK K
      (try simp only [Act.put, List.setIfInBounds_toArray, List.set_cons_zero, List.set_cons_succ])
      refine wpAnyH_ready (rs := [3]) (by kernel_rfl) (by simp) ?_
      refine AllReadyH.cons rfl (fun K hK => ?_) AllReadyH.nil
      ·go_simp
       ((go_at_call 30; (with_reducible refine (H_q12.out _ ?_).mono ?_); (focus (exact (And.right (by assumption : _ ∧ Below w10.heap.size w10 _)))); rintro e w12 ⟨rfl, hbw12⟩; have gw12 := Below.trans (And.right (by assumption : _ ∧ Below w10.heap.size w10 _)) (hbw12.mono (Below.size (And.right (by assumption : _ ∧ Below w10.heap.size w10 _)))); have gsw12 := gw12.size; have hcf := bcell hbw12; have hcw12 := hcf.1; have hfw12 := hcf.2; have hsw12 := hbw12.size; (try simp only [World.size_alloc, World.heap_drewN, heap_drew] at hsw12); have H_hbw12 := Lib.hid hbw12; clear hbw12 hcf; (try have hzw12 : w10.heap.size < w12.heap.size := by omega)); (try have hzA : w11.heap.size < w12.heap.size := by omega); (try have hzB : w10.heap.size + 1 < w11.heap.size := by omega); (try have hzC : w10.heap.size + 1 < w12.heap.size := by omega); (try have hzD : w11.heap.size + 1 < w12.heap.size := by omega))
       refine hK.out _ _ ?_ (fun hHeld => ?_)
       ·(try dsimp only); (first | (refine ext_mk ?_; exact belt))
       clear hK K
       (try simp only [Act.put, List.setIfInBounds_toArray, List.set_cons_zero, List.set_cons_succ])
       refine wpAnyH_ready (rs := [6]) (by kernel_rfl) (by simp) ?_
       refine AllReadyH.cons rfl (fun K hK => ?_) AllReadyH.nil
       ·go_simp
        refine hK.out _ _ ?_ (fun hHeld => ?_)
        ·(try dsimp only); (first | (refine ext_mk ?_; exact belt))
        clear hK K
        (try simp only [Act.put, List.setIfInBounds_toArray, List.set_cons_zero, List.set_cons_succ])
        refine wpAnyH_ready (rs := [7]) (by kernel_rfl) (by simp) ?_
        refine AllReadyH.cons rfl (fun K hK => ?_) AllReadyH.nil
        ·go_simp
         refine hK.out _ _ ?_ (fun hHeld => ?_)
         ·(try dsimp only); (first | (refine ext_mk ?_; exact belt))
         clear hK K
         (try simp only [Act.put, List.setIfInBounds_toArray, List.set_cons_zero, List.set_cons_succ])
         refine wpAnyH_done (by kernel_rfl) ?_ _
         (go_wp2_with fail; go_meet; (case rel => exact ⟨_, _, rfl, rfl, by with_reducible exact two_oo (((((blk_new rfl).alloc _).below (Below.refl _ _).drew).below H_hbw11.out).below H_hbw12.out) ((((blk_new (by simp)).below (Below.refl _ _).drew).below H_hbw11.out).below H_hbw12.out) (by first | omega | (simp; omega)) (by first | omega | (simp; omega)) (by first | omega | (simp; omega)) gw12⟩))
   ·go_simp
    refine hK.out _ _ ?_ (fun hHeld => ?_)
    ·(try dsimp only); (first | (refine ext_mk ?_; exact belt))
    clear hK K
    (try simp only [Act.put, List.setIfInBounds_toArray, List.set_cons_zero, List.set_cons_succ])
    refine wpAnyH_ready (rs := [1, 4]) (by kernel_rfl) (by simp) ?_
    refine AllReadyH.cons rfl (fun K hK => ?_) (AllReadyH.cons rfl (fun K hK => ?_) AllReadyH.nil)
    ·go_simp
     (go_at_call 30; (with_reducible refine (H_q11.out _ ?_).mono ?_); (focus (exact H_bb10.out.trans ((And.right (by assumption : _ ∧ Below w10.heap.size w10 _)).mono H_bb10.out.size))); rintro e w11 ⟨rfl, hbw11⟩; have gw11 := Below.trans (And.right (by assumption : _ ∧ Below w10.heap.size w10 _)) (hbw11.mono (Below.size (And.right (by assumption : _ ∧ Below w10.heap.size w10 _)))); have gsw11 := gw11.size; have hcf := bcell hbw11; have hcw11 := hcf.1; have hfw11 := hcf.2; have hsw11 := hbw11.size; (try simp only [World.size_alloc, World.heap_drewN, heap_drew] at hsw11); have H_hbw11 := Lib.hid hbw11; clear hbw11 hcf; (try have hzw11 : w10.heap.size < w11.heap.size := by omega))
     refine hK.out _ _ ?_ (fun hHeld => ?_)
     ·(try dsimp only); (first | (refine ext_mk ?_; exact belt))
     clear hK K
     (try simp only [Act.put, List.setIfInBounds_toArray, List.set_cons_zero, List.set_cons_succ])
     refine wpAnyH_ready (rs := [3, 4]) (by kernel_rfl) (by simp) ?_
     refine AllReadyH.cons rfl (fun K hK => ?_) (AllReadyH.cons rfl (fun K hK => ?_) AllReadyH.nil)
     ·go_simp
      ((go_at_call 30; (with_reducible refine (H_q12.out _ ?_).mono ?_); (focus (exact (And.right (by assumption : _ ∧ Below w10.heap.size w10 _)))); rintro e w12 ⟨rfl, hbw12⟩; have gw12 := Below.trans (And.right (by assumption : _ ∧ Below w10.heap.size w10 _)) (hbw12.mono (Below.size (And.right (by assumption : _ ∧ Below w10.heap.size w10 _)))); have gsw12 := gw12.size; have hcf := bcell hbw12; have hcw12 := hcf.1; have hfw12 := hcf.2; have hsw12 := hbw12.size; (try simp only [World.size_alloc, World.heap_drewN, heap_drew] at hsw12); have H_hbw12 := Lib.hid hbw12; clear hbw12 hcf; (try have hzw12 : w10.heap.size < w12.heap.size := by omega)); (try have hzA : w11.heap.size < w12.heap.size := by omega); (try have hzB : w10.heap.size + 1 < w11.heap.size := by omega); (try have hzC : w10.heap.size + 1 < w12.heap.size := by omega); (try have hzD : w11.heap.size + 1 < w12.heap.size := by omega))
      refine hK.out _ _ ?_ (fun hHeld => ?_)
      ·(try dsimp only); (first | (refine ext_mk ?_; exact belt))
      clear hK K
      (try simp only [Act.put, List.setIfInBounds_toArray, List.set_cons_zero, List.set_cons_succ])
      refine wpAnyH_ready (rs := [4]) (by kernel_rfl) (by simp) ?_
      refine AllReadyH.cons rfl (fun K hK => ?_) AllReadyH.nil
      ·go_simp
       refine hK.out _ _ ?_ (fun hHeld => ?_)
       ·(try dsimp only); (first | (refine ext_mk ?_; exact belt))
       clear hK K
       (try simp only [Act.put, List.setIfInBounds_toArray, List.set_cons_zero, List.set_cons_succ])
       refine wpAnyH_ready (rs := [6]) (by kernel_rfl) (by simp) ?_
       refine AllReadyH.cons rfl (fun K hK => ?_) AllReadyH.nil
       ·go_simp
        refine hK.out _ _ ?_ (fun hHeld => ?_)
        ·(try dsimp only); (first | (refine ext_mk ?_; exact belt))
        clear hK K
        (try simp only [Act.put, List.setIfInBounds_toArray, List.set_cons_zero, List.set_cons_succ])
        refine wpAnyH_ready (rs := [7]) (by kernel_rfl) (by simp) ?_
        refine AllReadyH.cons rfl (fun K hK => ?_) AllReadyH.nil
        ·go_simp
         refine hK.out _ _ ?_ (fun hHeld => ?_)
         ·(try dsimp only); (first | (refine ext_mk ?_; exact belt))
         clear hK K
         (try simp only [Act.put, List.setIfInBounds_toArray, List.set_cons_zero, List.set_cons_succ])
         refine wpAnyH_done (by kernel_rfl) ?_ _
         (go_wp2_with fail; go_meet; (case rel => exact ⟨_, _, rfl, rfl, by with_reducible exact two_no ((((blk_new rfl).below (Below.refl _ _).drew).below H_hbw11.out).below H_hbw12.out) (by first | omega | (simp; omega)) gw12⟩))
     ·go_simp
      refine hK.out _ _ ?_ (fun hHeld => ?_)
      ·(try dsimp only); (first | (refine ext_mk ?_; exact belt))
      clear hK K
      (try simp only [Act.put, List.setIfInBounds_toArray, List.set_cons_zero, List.set_cons_succ])
      refine wpAnyH_ready (rs := [3]) (by kernel_rfl) (by simp) ?_
      refine AllReadyH.cons rfl (fun K hK => ?_) AllReadyH.nil
      ·go_simp
       ((go_at_call 30; (with_reducible refine (H_q12.out _ ?_).mono ?_); (focus (exact (And.right (by assumption : _ ∧ Below w10.heap.size w10 _)))); rintro e w12 ⟨rfl, hbw12⟩; have gw12 := Below.trans (And.right (by assumption : _ ∧ Below w10.heap.size w10 _)) (hbw12.mono (Below.size (And.right (by assumption : _ ∧ Below w10.heap.size w10 _)))); have gsw12 := gw12.size; have hcf := bcell hbw12; have hcw12 := hcf.1; have hfw12 := hcf.2; have hsw12 := hbw12.size; (try simp only [World.size_alloc, World.heap_drewN, heap_drew] at hsw12); have H_hbw12 := Lib.hid hbw12; clear hbw12 hcf; (try have hzw12 : w10.heap.size < w12.heap.size := by omega)); (try have hzA : w11.heap.size < w12.heap.size := by omega); (try have hzB : w10.heap.size + 1 < w11.heap.size := by omega); (try have hzC : w10.heap.size + 1 < w12.heap.size := by omega); (try have hzD : w11.heap.size + 1 < w12.heap.size := by omega))
       refine hK.out _ _ ?_ (fun hHeld => ?_)
       ·(try dsimp only); (first | (refine ext_mk ?_; exact belt))
       clear hK K
       (try simp only [Act.put, List.setIfInBounds_toArray, List.set_cons_zero, List.set_cons_succ])
       refine wpAnyH_ready (rs := [6]) (by kernel_rfl) (by simp) ?_
       refine AllReadyH.cons rfl (fun K hK => ?_) AllReadyH.nil
       ·go_simp
        refine hK.out _ _ ?_ (fun hHeld => ?_)
        ·(try dsimp only); (first | (refine ext_mk ?_; exact belt))
        clear hK K
        (try simp only [Act.put, List.setIfInBounds_toArray, List.set_cons_zero, List.set_cons_succ])
        refine wpAnyH_ready (rs := [7]) (by kernel_rfl) (by simp) ?_
        refine AllReadyH.cons rfl (fun K hK => ?_) AllReadyH.nil
        ·go_simp
         refine hK.out _ _ ?_ (fun hHeld => ?_)
         ·(try dsimp only); (first | (refine ext_mk ?_; exact belt))
         clear hK K
         (try simp only [Act.put, List.setIfInBounds_toArray, List.set_cons_zero, List.set_cons_succ])
         refine wpAnyH_done (by kernel_rfl) ?_ _
         (go_wp2_with fail; go_meet; (case rel => exact ⟨_, _, rfl, rfl, by with_reducible exact two_oo ((blk_new rfl).below H_hbw12.out) (((((blk_new rfl).below (Below.refl _ _).drew).below H_hbw11.out).alloc _).below H_hbw12.out) (by first | omega | (simp; omega)) (by first | omega | (simp; omega)) (by first | omega | (simp; omega)) gw12⟩))
    ·go_simp
     refine hK.out _ _ ?_ (fun hHeld => ?_)
     ·(try dsimp only); (first | (refine ext_mk ?_; exact belt))
     clear hK K
     (try simp only [Act.put, List.setIfInBounds_toArray, List.set_cons_zero, List.set_cons_succ])
     refine wpAnyH_ready (rs := [1]) (by kernel_rfl) (by simp) ?_
     refine AllReadyH.cons rfl (fun K hK => ?_) AllReadyH.nil
     ·go_simp
      (go_at_call 30; (with_reducible refine (H_q11.out _ ?_).mono ?_); (focus (exact H_bb10.out.trans ((And.right (by assumption : _ ∧ Below w10.heap.size w10 _)).mono H_bb10.out.size))); rintro e w11 ⟨rfl, hbw11⟩; have gw11 := Below.trans (And.right (by assumption : _ ∧ Below w10.heap.size w10 _)) (hbw11.mono (Below.size (And.right (by assumption : _ ∧ Below w10.heap.size w10 _)))); have gsw11 := gw11.size; have hcf := bcell hbw11; have hcw11 := hcf.1; have hfw11 := hcf.2; have hsw11 := hbw11.size; (try simp only [World.size_alloc, World.heap_drewN, heap_drew] at hsw11); have H_hbw11 := Lib.hid hbw11; clear hbw11 hcf; (try have hzw11 : w10.heap.size < w11.heap.size := by omega))
      refine hK.out _ _ ?_ (fun hHeld => ?_)
      ·(try dsimp only); (first | (refine ext_mk ?_; exact belt))
      clear hK K
      (try simp only [Act.put, List.setIfInBounds_toArray, List.set_cons_zero, List.set_cons_succ])
      refine wpAnyH_ready (rs := [3]) (by kernel_rfl) (by simp) ?_
      refine AllReadyH.cons rfl (fun K hK => ?_) AllReadyH.nil
      ·go_simp
       ((go_at_call 30; (with_reducible refine (H_q12.out _ ?_).mono ?_); (focus (exact (And.right (by assumption : _ ∧ Below w10.heap.size w10 _)))); rintro e w12 ⟨rfl, hbw12⟩; have gw12 := Below.trans (And.right (by assumption : _ ∧ Below w10.heap.size w10 _)) (hbw12.mono (Below.size (And.right (by assumption : _ ∧ Below w10.heap.size w10 _)))); have gsw12 := gw12.size; have hcf := bcell hbw12; have hcw12 := hcf.1; have hfw12 := hcf.2; have hsw12 := hbw12.size; (try simp only [World.size_alloc, World.heap_drewN, heap_drew] at hsw12); have H_hbw12 := Lib.hid hbw12; clear hbw12 hcf; (try have hzw12 : w10.heap.size < w12.heap.size := by omega)); (try have hzA : w11.heap.size < w12.heap.size := by omega); (try have hzB : w10.heap.size + 1 < w11.heap.size := by omega); (try have hzC : w10.heap.size + 1 < w12.heap.size := by omega); (try have hzD : w11.heap.size + 1 < w12.heap.size := by omega))
       refine hK.out _ _ ?_ (fun hHeld => ?_)
       ·(try dsimp only); (first | (refine ext_mk ?_; exact belt))
       clear hK K
       (try simp only [Act.put, List.setIfInBounds_toArray, List.set_cons_zero, List.set_cons_succ])
       refine wpAnyH_ready (rs := [6]) (by kernel_rfl) (by simp) ?_
       refine AllReadyH.cons rfl (fun K hK => ?_) AllReadyH.nil
       ·go_simp
        refine hK.out _ _ ?_ (fun hHeld => ?_)
        ·(try dsimp only); (first | (refine ext_mk ?_; exact belt))
        clear hK K
        (try simp only [Act.put, List.setIfInBounds_toArray, List.set_cons_zero, List.set_cons_succ])
        refine wpAnyH_ready (rs := [7]) (by kernel_rfl) (by simp) ?_
        refine AllReadyH.cons rfl (fun K hK => ?_) AllReadyH.nil
        ·go_simp
         refine hK.out _ _ ?_ (fun hHeld => ?_)
         ·(try dsimp only); (first | (refine ext_mk ?_; exact belt))
         clear hK K
         (try simp only [Act.put, List.setIfInBounds_toArray, List.set_cons_zero, List.set_cons_succ])
         refine wpAnyH_done (by kernel_rfl) ?_ _
         (go_wp2_with fail; go_meet; (case rel => exact ⟨_, _, rfl, rfl, by with_reducible exact two_oo ((((blk_new (by simp)).below (Below.refl _ _).drew).below H_hbw11.out).below H_hbw12.out) (((((blk_new rfl).alloc _).below (Below.refl _ _).drew).below H_hbw11.out).below H_hbw12.out) (by first | omega | (simp; omega)) (by first | omega | (simp; omega)) (by first | omega | (simp; omega)) gw12⟩))
  case rest =>
   obtain ⟨g, h, rfl, rfl, ⟨hg10, hh10, hgh⟩, bg13, bh13, c13⟩ := hcut
   obtain ⟨w13, hw13⟩ : ∃ W, wc = W := ⟨_, rfl⟩
   rw [hw13] at bg13 bh13 c13 ⊢
   have s13 := c13.size
   have bb13 := H_bb10.out.trans (c13.mono H_bb10.out.size)
   clear ly lv
   clear y0 y1 y2 y3 y4 y5 y6 y7 y8 y9 y10 y11
   clear v0 v1 v2 v3 v4 v5 v6 v7 v8 v9 v10 v11
   have kr13 := H_kr10.out.below c13
   have kn13 := H_kn10.out.below c13
   have sl13 := H_sl10.out.below c13
   have sm13 := H_sm10.out.below c13
   have ⟨H_hw13, H_bg13, H_bh13, H_c13, H_bb13, H_kr13, H_kn13, H_sl13⟩ := hid8 hw13 bg13 bh13 c13 bb13 kr13 kn13 sl13; clear hw13 bg13 bh13 c13 bb13 kr13 kn13 sl13; have H_sm13 := Lib.hid sm13; clear sm13
   go_upto_region 17 with (fail)
   obtain ⟨y0, y1, y2, y3⟩ := at4_of H_bg13.out
   obtain ⟨v0, v1, v2, v3⟩ := at4_of H_bh13.out
   go_cut [136] from 129 to 136 (fun c0 wx => c0 = .bool false ∧ Below w13.heap.size w13 wx)
   case first =>
    by_cases h2 : mo % 3 < 2
    ·have eM := H_kM.out h2
     subst eM
     have f1 : decide (mo % 3 < 2) = true := decide_eq_true h2
     have q17 := H_q13.out _ w13 K1 K2 t1 t2 H_hkI.out H_sl13.out.ints H_sm13.out.ints
     have H_q17 := Lib.hid q17; clear q17
     go_wp2_with fail
     (with_reducible refine (H_q17.out).mono ?_)
     rintro e w14 ⟨rfl, b14⟩
     have c14 : Below w13.heap.size w13 w14 := Below.trans belt (b14.mono omh)
     have s14 := c14.size
     have bb14 := H_bb13.out.trans (c14.mono H_bb13.out.size)
     have ⟨H_b14, H_c14, H_bb14⟩ := hid3 b14 c14 bb14; clear b14 c14 bb14
     go_wp2_with fail
     go_meet
     case rel => exact ⟨rfl, H_c14.out⟩
    ·have f1 : decide (mo % 3 < 2) = false := decide_eq_false h2
     go_wp2_with fail
     go_meet
     case rel => exact ⟨rfl, Below.refl _ _⟩
   case rest =>
    obtain ⟨rfl, d14⟩ := hcut
    obtain ⟨w14, hw14⟩ : ∃ W, wc = W := ⟨_, rfl⟩
    rw [hw14] at d14 ⊢
    have c14 := H_c13.out.trans (d14.mono H_c13.out.size)
    have s14 := c14.size
    have bb14 := H_bb10.out.trans (c14.mono H_bb10.out.size)
    clear y0 y1 y2 y3
    clear v0 v1 v2 v3
    have kr14 := H_kr10.out.below c14
    have kn14 := H_kn10.out.below c14
    have sr14 := H_sr10.out.below c14
    have sn14 := H_sn10.out.below c14
    have ⟨H_hw14, H_d14, H_c14, H_bb14, H_kr14, H_kn14, H_sr14, H_sn14⟩ := hid8 hw14 d14 c14 bb14 kr14 kn14 sr14 sn14; clear hw14 d14 c14 bb14 kr14 kn14 sr14 sn14
    go_upto_region 19 with (fail)
    obtain ⟨y0, y1, y2, y3, y4, y5, y6, y7, y8, y9, y10, y11⟩ := at12_of H_kr14.out
    obtain ⟨v0, v1, v2, v3, v4, v5, v6, v7, v8, v9, v10, v11⟩ := at12_of H_kn14.out
    have ly := (H_kr14.out 0 _ rfl).lt
    have lv := (H_kn14.out 0 _ rfl).lt
    go_cut [27, 28] from 137 to 140 (fun c25 c26 wx => ∃ g h : Nat, c25 = .pointer (some ⟨g, 0, none⟩) ∧ c26 = .pointer (some ⟨h, 0, none⟩) ∧ Two w14 wx g h #[.int .i64 sR.s, .int .i64 sR.c, .slice K3 sR.l.length t3, .int .u64 sR.u] #[.int .i64 sn.s, .int .i64 sn.c, .slice K4 sn.l.length t4, .int .u64 sn.u])
    case first =>
     refine wp_region_held_drew (S := (fun W => (∀ b o, b < w14.heap.size → W.cell? ⟨b, o, none⟩ = w14.cell? ⟨b, o, none⟩) ∧ Below w14.heap.size w14 W)) (by kernel_rfl) ?_ (fun hHeld => ?_)
     ·(try dsimp only); (first | (refine ext_mk ?_; exact belt))
     refine take_at (i := 0) (some 137) rfl rfl (by kernel_rfl) (fun _ _ _ h => h) (by rfl) (v := ?_) ?_ (by assumption) ?_
     rotate_left
     ·intro W hSw; (try dsimp only at hSw); go_simp; (try with_reducible rfl)
     (try simp only [Act.put, List.setIfInBounds_toArray, List.set_cons_zero, List.set_cons_succ])
     refine take_at (i := 2) (some 139) rfl rfl (by kernel_rfl) (fun _ _ _ h => h) (by rfl) (v := ?_) ?_ (by assumption) ?_
     rotate_left
     ·intro W hSw; (try dsimp only at hSw); go_simp; (try with_reducible rfl)
     (try simp only [Act.put, List.setIfInBounds_toArray, List.set_cons_zero, List.set_cons_succ])
     refine wpAnyH_ready (rs := [1, 4, 5]) (by kernel_rfl) (by simp) ?_
     refine AllReadyH.cons rfl (fun K hK => ?_) (AllReadyH.cons rfl (fun K hK => ?_) (AllReadyH.cons rfl (fun K hK => ?_) AllReadyH.nil))
     ·go_simp
      (go_at_call 30; (with_reducible refine (H_q15.out _ ?_).mono ?_); (focus (exact H_c14.out.trans ((And.right (by assumption : _ ∧ Below w14.heap.size w14 _)).mono H_c14.out.size))); rintro e w15 ⟨rfl, hbw15⟩; have gw15 := Below.trans (And.right (by assumption : _ ∧ Below w14.heap.size w14 _)) (hbw15.mono (Below.size (And.right (by assumption : _ ∧ Below w14.heap.size w14 _)))); have gsw15 := gw15.size; have hcf := bcell hbw15; have hcw15 := hcf.1; have hfw15 := hcf.2; have hsw15 := hbw15.size; (try simp only [World.size_alloc, World.heap_drewN, heap_drew] at hsw15); have H_hbw15 := Lib.hid hbw15; clear hbw15 hcf; (try have hzw15 : w14.heap.size < w15.heap.size := by omega))
      refine hK.out _ _ ?_ (fun hHeld => ?_)
      ·(try dsimp only); (first | (refine ext_mk ?_; exact belt))
      clear hK K
      (try simp only [Act.put, List.setIfInBounds_toArray, List.set_cons_zero, List.set_cons_succ])
      refine wpAnyH_ready (rs := [3, 4, 5]) (by kernel_rfl) (by simp) ?_
      refine AllReadyH.cons rfl (fun K hK => ?_) (AllReadyH.cons rfl (fun K hK => ?_) (AllReadyH.cons rfl (fun K hK => ?_) AllReadyH.nil))
      ·go_simp
       ((go_at_call 30; (with_reducible refine (H_q16.out _ ?_).mono ?_); (focus (exact H_c14.out.trans ((And.right (by assumption : _ ∧ Below w14.heap.size w14 _)).mono H_c14.out.size))); rintro e w16 ⟨rfl, hbw16⟩; have gw16 := Below.trans (And.right (by assumption : _ ∧ Below w14.heap.size w14 _)) (hbw16.mono (Below.size (And.right (by assumption : _ ∧ Below w14.heap.size w14 _)))); have gsw16 := gw16.size; have hcf := bcell hbw16; have hcw16 := hcf.1; have hfw16 := hcf.2; have hsw16 := hbw16.size; (try simp only [World.size_alloc, World.heap_drewN, heap_drew] at hsw16); have H_hbw16 := Lib.hid hbw16; clear hbw16 hcf; (try have hzw16 : w14.heap.size < w16.heap.size := by omega)); (try have hzA : w15.heap.size < w16.heap.size := by omega); (try have hzB : w14.heap.size + 1 < w15.heap.size := by omega); (try have hzC : w14.heap.size + 1 < w16.heap.size := by omega); (try have hzD : w15.heap.size + 1 < w16.heap.size := by omega))
       refine hK.out _ _ ?_ (fun hHeld => ?_)
       ·(try dsimp only); (first | (refine ext_mk ?_; exact belt))
       clear hK K
       (try simp only [Act.put, List.setIfInBounds_toArray, List.set_cons_zero, List.set_cons_succ])
       refine wpAnyH_ready (rs := [4, 5]) (by kernel_rfl) (by simp) ?_
       refine AllReadyH.cons rfl (fun K hK => ?_) (AllReadyH.cons rfl (fun K hK => ?_) AllReadyH.nil)
       ·go_simp
        refine hK.out _ _ ?_ (fun hHeld => ?_)
        ·(try dsimp only); (first | (refine ext_mk ?_; exact belt))
        clear hK K
        (try simp only [Act.put, List.setIfInBounds_toArray, List.set_cons_zero, List.set_cons_succ])
        refine wpAnyH_ready (rs := [5]) (by kernel_rfl) (by simp) ?_
        refine AllReadyH.cons rfl (fun K hK => ?_) AllReadyH.nil
        ·go_simp
         refine hK.out _ _ ?_ (fun hHeld => ?_)
         ·(try dsimp only); (first | (refine ext_mk ?_; exact belt))
         clear hK K
         (try simp only [Act.put, List.setIfInBounds_toArray, List.set_cons_zero, List.set_cons_succ])
         refine wpAnyH_ready (rs := [6]) (by kernel_rfl) (by simp) ?_
         refine AllReadyH.cons rfl (fun K hK => ?_) AllReadyH.nil
         ·go_simp
          refine hK.out _ _ ?_ (fun hHeld => ?_)
          ·(try dsimp only); (first | (refine ext_mk ?_; exact belt))
          clear hK K
          (try simp only [Act.put, List.setIfInBounds_toArray, List.set_cons_zero, List.set_cons_succ])
          refine wpAnyH_ready (rs := [7]) (by kernel_rfl) (by simp) ?_
          refine AllReadyH.cons rfl (fun K hK => ?_) AllReadyH.nil
          ·go_simp
           refine hK.out _ _ ?_ (fun hHeld => ?_)
           ·(try dsimp only); (first | (refine ext_mk ?_; exact belt))
           clear hK K
           (try simp only [Act.put, List.setIfInBounds_toArray, List.set_cons_zero, List.set_cons_succ])
           refine wpAnyH_done (by kernel_rfl) ?_ _
           (go_wp2_with fail; go_meet; (case rel => exact ⟨_, _, rfl, rfl, by with_reducible exact two_nn gw16⟩))
       ·go_simp
        refine hK.out _ _ ?_ (fun hHeld => ?_)
        ·(try dsimp only); (first | (refine ext_mk ?_; exact belt))
        clear hK K
        (try simp only [Act.put, List.setIfInBounds_toArray, List.set_cons_zero, List.set_cons_succ])
        refine wpAnyH_ready (rs := [4]) (by kernel_rfl) (by simp) ?_
        refine AllReadyH.cons rfl (fun K hK => ?_) AllReadyH.nil
        ·go_simp
         refine hK.out _ _ ?_ (fun hHeld => ?_)
         ·(try dsimp only); (first | (refine ext_mk ?_; exact belt))
         clear hK K
         (try simp only [Act.put, List.setIfInBounds_toArray, List.set_cons_zero, List.set_cons_succ])
         refine wpAnyH_ready (rs := [6]) (by kernel_rfl) (by simp) ?_
         refine AllReadyH.cons rfl (fun K hK => ?_) AllReadyH.nil
         ·go_simp
          refine hK.out _ _ ?_ (fun hHeld => ?_)
          ·(try dsimp only); (first | (refine ext_mk ?_; exact belt))
          clear hK K
          (try simp only [Act.put, List.setIfInBounds_toArray, List.set_cons_zero, List.set_cons_succ])
          refine wpAnyH_ready (rs := [7]) (by kernel_rfl) (by simp) ?_
          refine AllReadyH.cons rfl (fun K hK => ?_) AllReadyH.nil
          ·go_simp
           refine hK.out _ _ ?_ (fun hHeld => ?_)
           ·(try dsimp only); (first | (refine ext_mk ?_; exact belt))
           clear hK K
           (try simp only [Act.put, List.setIfInBounds_toArray, List.set_cons_zero, List.set_cons_succ])
           refine wpAnyH_done (by kernel_rfl) ?_ _
           (go_wp2_with fail; go_meet; (case rel => exact ⟨_, _, rfl, rfl, by with_reducible exact two_nn' gw16⟩))
      ·go_simp
       refine hK.out _ _ ?_ (fun hHeld => ?_)
       ·(try dsimp only); (first | (refine ext_mk ?_; exact belt))
       clear hK K
       (try simp only [Act.put, List.setIfInBounds_toArray, List.set_cons_zero, List.set_cons_succ])
       refine wpAnyH_ready (rs := [3, 5]) (by kernel_rfl) (by simp) ?_
       refine AllReadyH.cons rfl (fun K hK => ?_) (AllReadyH.cons rfl (fun K hK => ?_) AllReadyH.nil)
       ·go_simp
        ((go_at_call 30; (with_reducible refine (H_q16.out _ ?_).mono ?_); (focus (exact H_c14.out.trans ((And.right (by assumption : _ ∧ Below w14.heap.size w14 _)).mono H_c14.out.size))); rintro e w16 ⟨rfl, hbw16⟩; have gw16 := Below.trans (And.right (by assumption : _ ∧ Below w14.heap.size w14 _)) (hbw16.mono (Below.size (And.right (by assumption : _ ∧ Below w14.heap.size w14 _)))); have gsw16 := gw16.size; have hcf := bcell hbw16; have hcw16 := hcf.1; have hfw16 := hcf.2; have hsw16 := hbw16.size; (try simp only [World.size_alloc, World.heap_drewN, heap_drew] at hsw16); have H_hbw16 := Lib.hid hbw16; clear hbw16 hcf; (try have hzw16 : w14.heap.size < w16.heap.size := by omega)); (try have hzA : w15.heap.size < w16.heap.size := by omega); (try have hzB : w14.heap.size + 1 < w15.heap.size := by omega); (try have hzC : w14.heap.size + 1 < w16.heap.size := by omega); (try have hzD : w15.heap.size + 1 < w16.heap.size := by omega))
        refine hK.out _ _ ?_ (fun hHeld => ?_)
        ·(try dsimp only); (first | (refine ext_mk ?_; exact belt))
        clear hK K
        (try simp only [Act.put, List.setIfInBounds_toArray, List.set_cons_zero, List.set_cons_succ])
        refine wpAnyH_ready (rs := [5]) (by kernel_rfl) (by simp) ?_
        refine AllReadyH.cons rfl (fun K hK => ?_) AllReadyH.nil
        ·go_simp
         refine hK.out _ _ ?_ (fun hHeld => ?_)
         ·(try dsimp only); (first | (refine ext_mk ?_; exact belt))
         clear hK K
         (try simp only [Act.put, List.setIfInBounds_toArray, List.set_cons_zero, List.set_cons_succ])
         refine wpAnyH_ready (rs := [6]) (by kernel_rfl) (by simp) ?_
         refine AllReadyH.cons rfl (fun K hK => ?_) AllReadyH.nil
         ·go_simp
          refine hK.out _ _ ?_ (fun hHeld => ?_)
          ·(try dsimp only); (first | (refine ext_mk ?_; exact belt))
          clear hK K
          (try simp only [Act.put, List.setIfInBounds_toArray, List.set_cons_zero, List.set_cons_succ])
          refine wpAnyH_ready (rs := [7]) (by kernel_rfl) (by simp) ?_
          refine AllReadyH.cons rfl (fun K hK => ?_) AllReadyH.nil
          ·go_simp
           refine hK.out _ _ ?_ (fun hHeld => ?_)
           ·(try dsimp only); (first | (refine ext_mk ?_; exact belt))
           clear hK K
           (try simp only [Act.put, List.setIfInBounds_toArray, List.set_cons_zero, List.set_cons_succ])
           refine wpAnyH_done (by kernel_rfl) ?_ _
           (go_wp2_with fail; go_meet; (case rel => exact ⟨_, _, rfl, rfl, by with_reducible exact two_on ((blk_new rfl).below H_hbw16.out) (by first | omega | (simp; omega)) gw16⟩))
       ·go_simp
        refine hK.out _ _ ?_ (fun hHeld => ?_)
        ·(try dsimp only); (first | (refine ext_mk ?_; exact belt))
        clear hK K
        (try simp only [Act.put, List.setIfInBounds_toArray, List.set_cons_zero, List.set_cons_succ])
        refine wpAnyH_ready (rs := [3]) (by kernel_rfl) (by simp) ?_
        refine AllReadyH.cons rfl (fun K hK => ?_) AllReadyH.nil
        ·go_simp
         ((go_at_call 30; (with_reducible refine (H_q16.out _ ?_).mono ?_); (focus (exact H_c14.out.trans ((And.right (by assumption : _ ∧ Below w14.heap.size w14 _)).mono H_c14.out.size))); rintro e w16 ⟨rfl, hbw16⟩; have gw16 := Below.trans (And.right (by assumption : _ ∧ Below w14.heap.size w14 _)) (hbw16.mono (Below.size (And.right (by assumption : _ ∧ Below w14.heap.size w14 _)))); have gsw16 := gw16.size; have hcf := bcell hbw16; have hcw16 := hcf.1; have hfw16 := hcf.2; have hsw16 := hbw16.size; (try simp only [World.size_alloc, World.heap_drewN, heap_drew] at hsw16); have H_hbw16 := Lib.hid hbw16; clear hbw16 hcf; (try have hzw16 : w14.heap.size < w16.heap.size := by omega)); (try have hzA : w15.heap.size < w16.heap.size := by omega); (try have hzB : w14.heap.size + 1 < w15.heap.size := by omega); (try have hzC : w14.heap.size + 1 < w16.heap.size := by omega); (try have hzD : w15.heap.size + 1 < w16.heap.size := by omega))
         refine hK.out _ _ ?_ (fun hHeld => ?_)
         ·(try dsimp only); (first | (refine ext_mk ?_; exact belt))
         clear hK K
         (try simp only [Act.put, List.setIfInBounds_toArray, List.set_cons_zero, List.set_cons_succ])
         refine wpAnyH_ready (rs := [6]) (by kernel_rfl) (by simp) ?_
         refine AllReadyH.cons rfl (fun K hK => ?_) AllReadyH.nil
         ·go_simp
          refine hK.out _ _ ?_ (fun hHeld => ?_)
          ·(try dsimp only); (first | (refine ext_mk ?_; exact belt))
          clear hK K
          (try simp only [Act.put, List.setIfInBounds_toArray, List.set_cons_zero, List.set_cons_succ])
          refine wpAnyH_ready (rs := [7]) (by kernel_rfl) (by simp) ?_
          refine AllReadyH.cons rfl (fun K hK => ?_) AllReadyH.nil
          ·go_simp
           refine hK.out _ _ ?_ (fun hHeld => ?_)
           ·(try dsimp only); (first | (refine ext_mk ?_; exact belt))
           clear hK K
           (try simp only [Act.put, List.setIfInBounds_toArray, List.set_cons_zero, List.set_cons_succ])
           refine wpAnyH_done (by kernel_rfl) ?_ _
           (go_wp2_with fail; go_meet; (case rel => exact ⟨_, _, rfl, rfl, by with_reducible exact two_oo (((blk_new rfl).alloc _).below H_hbw16.out) ((blk_new (by simp)).below H_hbw16.out) (by first | omega | (simp; omega)) (by first | omega | (simp; omega)) (by first | omega | (simp; omega)) gw16⟩))
      ·go_simp
       refine hK.out _ _ ?_ (fun hHeld => ?_)
       ·(try dsimp only); (first | (refine ext_mk ?_; exact belt))
       clear hK K
       (try simp only [Act.put, List.setIfInBounds_toArray, List.set_cons_zero, List.set_cons_succ])
       refine wpAnyH_ready (rs := [3, 4]) (by kernel_rfl) (by simp) ?_
       refine AllReadyH.cons rfl (fun K hK => ?_) (AllReadyH.cons rfl (fun K hK => ?_) AllReadyH.nil)
       ·go_simp
        ((go_at_call 30; (with_reducible refine (H_q16.out _ ?_).mono ?_); (focus (exact H_c14.out.trans ((And.right (by assumption : _ ∧ Below w14.heap.size w14 _)).mono H_c14.out.size))); rintro e w16 ⟨rfl, hbw16⟩; have gw16 := Below.trans (And.right (by assumption : _ ∧ Below w14.heap.size w14 _)) (hbw16.mono (Below.size (And.right (by assumption : _ ∧ Below w14.heap.size w14 _)))); have gsw16 := gw16.size; have hcf := bcell hbw16; have hcw16 := hcf.1; have hfw16 := hcf.2; have hsw16 := hbw16.size; (try simp only [World.size_alloc, World.heap_drewN, heap_drew] at hsw16); have H_hbw16 := Lib.hid hbw16; clear hbw16 hcf; (try have hzw16 : w14.heap.size < w16.heap.size := by omega)); (try have hzA : w15.heap.size < w16.heap.size := by omega); (try have hzB : w14.heap.size + 1 < w15.heap.size := by omega); (try have hzC : w14.heap.size + 1 < w16.heap.size := by omega); (try have hzD : w15.heap.size + 1 < w16.heap.size := by omega))
        refine hK.out _ _ ?_ (fun hHeld => ?_)
        ·(try dsimp only); (first | (refine ext_mk ?_; exact belt))
        clear hK K
        (try simp only [Act.put, List.setIfInBounds_toArray, List.set_cons_zero, List.set_cons_succ])
        refine wpAnyH_ready (rs := [4]) (by kernel_rfl) (by simp) ?_
        refine AllReadyH.cons rfl (fun K hK => ?_) AllReadyH.nil
        ·go_simp
         refine hK.out _ _ ?_ (fun hHeld => ?_)
         ·(try dsimp only); (first | (refine ext_mk ?_; exact belt))
         clear hK K
         (try simp only [Act.put, List.setIfInBounds_toArray, List.set_cons_zero, List.set_cons_succ])
         refine wpAnyH_ready (rs := [6]) (by kernel_rfl) (by simp) ?_
         refine AllReadyH.cons rfl (fun K hK => ?_) AllReadyH.nil
         ·go_simp
          refine hK.out _ _ ?_ (fun hHeld => ?_)
          ·(try dsimp only); (first | (refine ext_mk ?_; exact belt))
          clear hK K
          (try simp only [Act.put, List.setIfInBounds_toArray, List.set_cons_zero, List.set_cons_succ])
          refine wpAnyH_ready (rs := [7]) (by kernel_rfl) (by simp) ?_
          refine AllReadyH.cons rfl (fun K hK => ?_) AllReadyH.nil
          ·go_simp
           refine hK.out _ _ ?_ (fun hHeld => ?_)
           ·(try dsimp only); (first | (refine ext_mk ?_; exact belt))
           clear hK K
           (try simp only [Act.put, List.setIfInBounds_toArray, List.set_cons_zero, List.set_cons_succ])
           refine wpAnyH_done (by kernel_rfl) ?_ _
           (go_wp2_with fail; go_meet; (case rel => exact ⟨_, _, rfl, rfl, by with_reducible exact two_no ((blk_new rfl).below H_hbw16.out) (by first | omega | (simp; omega)) gw16⟩))
       ·go_simp
        refine hK.out _ _ ?_ (fun hHeld => ?_)
        ·(try dsimp only); (first | (refine ext_mk ?_; exact belt))
        clear hK K
        (try simp only [Act.put, List.setIfInBounds_toArray, List.set_cons_zero, List.set_cons_succ])
        refine wpAnyH_ready (rs := [3]) (by kernel_rfl) (by simp) ?_
        refine AllReadyH.cons rfl (fun K hK => ?_) AllReadyH.nil
        ·go_simp
         ((go_at_call 30; (with_reducible refine (H_q16.out _ ?_).mono ?_); (focus (exact H_c14.out.trans ((And.right (by assumption : _ ∧ Below w14.heap.size w14 _)).mono H_c14.out.size))); rintro e w16 ⟨rfl, hbw16⟩; have gw16 := Below.trans (And.right (by assumption : _ ∧ Below w14.heap.size w14 _)) (hbw16.mono (Below.size (And.right (by assumption : _ ∧ Below w14.heap.size w14 _)))); have gsw16 := gw16.size; have hcf := bcell hbw16; have hcw16 := hcf.1; have hfw16 := hcf.2; have hsw16 := hbw16.size; (try simp only [World.size_alloc, World.heap_drewN, heap_drew] at hsw16); have H_hbw16 := Lib.hid hbw16; clear hbw16 hcf; (try have hzw16 : w14.heap.size < w16.heap.size := by omega)); (try have hzA : w15.heap.size < w16.heap.size := by omega); (try have hzB : w14.heap.size + 1 < w15.heap.size := by omega); (try have hzC : w14.heap.size + 1 < w16.heap.size := by omega); (try have hzD : w15.heap.size + 1 < w16.heap.size := by omega))
         refine hK.out _ _ ?_ (fun hHeld => ?_)
         ·(try dsimp only); (first | (refine ext_mk ?_; exact belt))
         clear hK K
         (try simp only [Act.put, List.setIfInBounds_toArray, List.set_cons_zero, List.set_cons_succ])
         refine wpAnyH_ready (rs := [6]) (by kernel_rfl) (by simp) ?_
         refine AllReadyH.cons rfl (fun K hK => ?_) AllReadyH.nil
         ·go_simp
          refine hK.out _ _ ?_ (fun hHeld => ?_)
          ·(try dsimp only); (first | (refine ext_mk ?_; exact belt))
          clear hK K
          (try simp only [Act.put, List.setIfInBounds_toArray, List.set_cons_zero, List.set_cons_succ])
          refine wpAnyH_ready (rs := [7]) (by kernel_rfl) (by simp) ?_
          refine AllReadyH.cons rfl (fun K hK => ?_) AllReadyH.nil
          ·go_simp
           refine hK.out _ _ ?_ (fun hHeld => ?_)
           ·(try dsimp only); (first | (refine ext_mk ?_; exact belt))
           clear hK K
           (try simp only [Act.put, List.setIfInBounds_toArray, List.set_cons_zero, List.set_cons_succ])
           refine wpAnyH_done (by kernel_rfl) ?_ _
           (go_wp2_with fail; go_meet; (case rel => exact ⟨_, _, rfl, rfl, by with_reducible exact two_oo ((blk_new (by simp)).below H_hbw16.out) (((blk_new rfl).alloc _).below H_hbw16.out) (by first | omega | (simp; omega)) (by first | omega | (simp; omega)) (by first | omega | (simp; omega)) gw16⟩))
     ·go_simp
      refine hK.out _ _ ?_ (fun hHeld => ?_)
      ·(try dsimp only); (first | (refine ext_mk ?_; exact belt))
      clear hK K
      (try simp only [Act.put, List.setIfInBounds_toArray, List.set_cons_zero, List.set_cons_succ])
      refine wpAnyH_ready (rs := [1, 5]) (by kernel_rfl) (by simp) ?_
      refine AllReadyH.cons rfl (fun K hK => ?_) (AllReadyH.cons rfl (fun K hK => ?_) AllReadyH.nil)
      ·go_simp
       (go_at_call 30; (with_reducible refine (H_q15.out _ ?_).mono ?_); (focus (exact H_c14.out.trans ((And.right (by assumption : _ ∧ Below w14.heap.size w14 _)).mono H_c14.out.size))); rintro e w15 ⟨rfl, hbw15⟩; have gw15 := Below.trans (And.right (by assumption : _ ∧ Below w14.heap.size w14 _)) (hbw15.mono (Below.size (And.right (by assumption : _ ∧ Below w14.heap.size w14 _)))); have gsw15 := gw15.size; have hcf := bcell hbw15; have hcw15 := hcf.1; have hfw15 := hcf.2; have hsw15 := hbw15.size; (try simp only [World.size_alloc, World.heap_drewN, heap_drew] at hsw15); have H_hbw15 := Lib.hid hbw15; clear hbw15 hcf; (try have hzw15 : w14.heap.size < w15.heap.size := by omega))
       refine hK.out _ _ ?_ (fun hHeld => ?_)
       ·(try dsimp only); (first | (refine ext_mk ?_; exact belt))
       clear hK K
       (try simp only [Act.put, List.setIfInBounds_toArray, List.set_cons_zero, List.set_cons_succ])
       refine wpAnyH_ready (rs := [3, 5]) (by kernel_rfl) (by simp) ?_
       refine AllReadyH.cons rfl (fun K hK => ?_) (AllReadyH.cons rfl (fun K hK => ?_) AllReadyH.nil)
       ·go_simp
        ((go_at_call 30; (with_reducible refine (H_q16.out _ ?_).mono ?_); (focus (exact H_c14.out.trans ((And.right (by assumption : _ ∧ Below w14.heap.size w14 _)).mono H_c14.out.size))); rintro e w16 ⟨rfl, hbw16⟩; have gw16 := Below.trans (And.right (by assumption : _ ∧ Below w14.heap.size w14 _)) (hbw16.mono (Below.size (And.right (by assumption : _ ∧ Below w14.heap.size w14 _)))); have gsw16 := gw16.size; have hcf := bcell hbw16; have hcw16 := hcf.1; have hfw16 := hcf.2; have hsw16 := hbw16.size; (try simp only [World.size_alloc, World.heap_drewN, heap_drew] at hsw16); have H_hbw16 := Lib.hid hbw16; clear hbw16 hcf; (try have hzw16 : w14.heap.size < w16.heap.size := by omega)); (try have hzA : w15.heap.size < w16.heap.size := by omega); (try have hzB : w14.heap.size + 1 < w15.heap.size := by omega); (try have hzC : w14.heap.size + 1 < w16.heap.size := by omega); (try have hzD : w15.heap.size + 1 < w16.heap.size := by omega))
        refine hK.out _ _ ?_ (fun hHeld => ?_)
        ·(try dsimp only); (first | (refine ext_mk ?_; exact belt))
        clear hK K
        (try simp only [Act.put, List.setIfInBounds_toArray, List.set_cons_zero, List.set_cons_succ])
        refine wpAnyH_ready (rs := [5]) (by kernel_rfl) (by simp) ?_
        refine AllReadyH.cons rfl (fun K hK => ?_) AllReadyH.nil
        ·go_simp
         refine hK.out _ _ ?_ (fun hHeld => ?_)
         ·(try dsimp only); (first | (refine ext_mk ?_; exact belt))
         clear hK K
         (try simp only [Act.put, List.setIfInBounds_toArray, List.set_cons_zero, List.set_cons_succ])
         refine wpAnyH_ready (rs := [6]) (by kernel_rfl) (by simp) ?_
         refine AllReadyH.cons rfl (fun K hK => ?_) AllReadyH.nil
         ·go_simp
          refine hK.out _ _ ?_ (fun hHeld => ?_)
          ·(try dsimp only); (first | (refine ext_mk ?_; exact belt))
          clear hK K
          (try simp only [Act.put, List.setIfInBounds_toArray, List.set_cons_zero, List.set_cons_succ])
          refine wpAnyH_ready (rs := [7]) (by kernel_rfl) (by simp) ?_
          refine AllReadyH.cons rfl (fun K hK => ?_) AllReadyH.nil
          ·go_simp
           refine hK.out _ _ ?_ (fun hHeld => ?_)
           ·(try dsimp only); (first | (refine ext_mk ?_; exact belt))
           clear hK K
           (try simp only [Act.put, List.setIfInBounds_toArray, List.set_cons_zero, List.set_cons_succ])
           refine wpAnyH_done (by kernel_rfl) ?_ _
           (go_wp2_with fail; go_meet; (case rel => exact ⟨_, _, rfl, rfl, by with_reducible exact two_on ((((blk_new rfl).below (Below.refl _ _).drew).below H_hbw15.out).below H_hbw16.out) (by first | omega | (simp; omega)) gw16⟩))
       ·go_simp
        refine hK.out _ _ ?_ (fun hHeld => ?_)
        ·(try dsimp only); (first | (refine ext_mk ?_; exact belt))
        clear hK K
        (try simp only [Act.put, List.setIfInBounds_toArray, List.set_cons_zero, List.set_cons_succ])
        refine wpAnyH_ready (rs := [3]) (by kernel_rfl) (by simp) ?_
        refine AllReadyH.cons rfl (fun K hK => ?_) AllReadyH.nil
        ·go_simp
         ((go_at_call 30; (with_reducible refine (H_q16.out _ ?_).mono ?_); (focus (exact H_c14.out.trans ((And.right (by assumption : _ ∧ Below w14.heap.size w14 _)).mono H_c14.out.size))); rintro e w16 ⟨rfl, hbw16⟩; have gw16 := Below.trans (And.right (by assumption : _ ∧ Below w14.heap.size w14 _)) (hbw16.mono (Below.size (And.right (by assumption : _ ∧ Below w14.heap.size w14 _)))); have gsw16 := gw16.size; have hcf := bcell hbw16; have hcw16 := hcf.1; have hfw16 := hcf.2; have hsw16 := hbw16.size; (try simp only [World.size_alloc, World.heap_drewN, heap_drew] at hsw16); have H_hbw16 := Lib.hid hbw16; clear hbw16 hcf; (try have hzw16 : w14.heap.size < w16.heap.size := by omega)); (try have hzA : w15.heap.size < w16.heap.size := by omega); (try have hzB : w14.heap.size + 1 < w15.heap.size := by omega); (try have hzC : w14.heap.size + 1 < w16.heap.size := by omega); (try have hzD : w15.heap.size + 1 < w16.heap.size := by omega))
         refine hK.out _ _ ?_ (fun hHeld => ?_)
         ·(try dsimp only); (first | (refine ext_mk ?_; exact belt))
         clear hK K
         (try simp only [Act.put, List.setIfInBounds_toArray, List.set_cons_zero, List.set_cons_succ])
         refine wpAnyH_ready (rs := [6]) (by kernel_rfl) (by simp) ?_
         refine AllReadyH.cons rfl (fun K hK => ?_) AllReadyH.nil
         ·go_simp
          refine hK.out _ _ ?_ (fun hHeld => ?_)
          ·(try dsimp only); (first | (refine ext_mk ?_; exact belt))
          clear hK K
          (try simp only [Act.put, List.setIfInBounds_toArray, List.set_cons_zero, List.set_cons_succ])
          refine wpAnyH_ready (rs := [7]) (by kernel_rfl) (by simp) ?_
          refine AllReadyH.cons rfl (fun K hK => ?_) AllReadyH.nil
          ·go_simp
           refine hK.out _ _ ?_ (fun hHeld => ?_)
           ·(try dsimp only); (first | (refine ext_mk ?_; exact belt))
           clear hK K
           (try simp only [Act.put, List.setIfInBounds_toArray, List.set_cons_zero, List.set_cons_succ])
           refine wpAnyH_done (by kernel_rfl) ?_ _
           (go_wp2_with fail; go_meet; (case rel => exact ⟨_, _, rfl, rfl, by with_reducible exact two_oo (((((blk_new rfl).below (Below.refl _ _).drew).below H_hbw15.out).alloc _).below H_hbw16.out) ((blk_new rfl).below H_hbw16.out) (by first | omega | (simp; omega)) (by first | omega | (simp; omega)) (by first | omega | (simp; omega)) gw16⟩))
      ·go_simp
       refine hK.out _ _ ?_ (fun hHeld => ?_)
       ·(try dsimp only); (first | (refine ext_mk ?_; exact belt))
       clear hK K
       (try simp only [Act.put, List.setIfInBounds_toArray, List.set_cons_zero, List.set_cons_succ])
       refine wpAnyH_ready (rs := [1]) (by kernel_rfl) (by simp) ?_
       refine AllReadyH.cons rfl (fun K hK => ?_) AllReadyH.nil
       ·go_simp
        (go_at_call 30; (with_reducible refine (H_q15.out _ ?_).mono ?_); (focus (exact H_c14.out.trans ((And.right (by assumption : _ ∧ Below w14.heap.size w14 _)).mono H_c14.out.size))); rintro e w15 ⟨rfl, hbw15⟩; have gw15 := Below.trans (And.right (by assumption : _ ∧ Below w14.heap.size w14 _)) (hbw15.mono (Below.size (And.right (by assumption : _ ∧ Below w14.heap.size w14 _)))); have gsw15 := gw15.size; have hcf := bcell hbw15; have hcw15 := hcf.1; have hfw15 := hcf.2; have hsw15 := hbw15.size; (try simp only [World.size_alloc, World.heap_drewN, heap_drew] at hsw15); have H_hbw15 := Lib.hid hbw15; clear hbw15 hcf; (try have hzw15 : w14.heap.size < w15.heap.size := by omega))
        refine hK.out _ _ ?_ (fun hHeld => ?_)
        ·(try dsimp only); (first | (refine ext_mk ?_; exact belt))
        clear hK K
        (try simp only [Act.put, List.setIfInBounds_toArray, List.set_cons_zero, List.set_cons_succ])
        refine wpAnyH_ready (rs := [3]) (by kernel_rfl) (by simp) ?_
        refine AllReadyH.cons rfl (fun K hK => ?_) AllReadyH.nil
        ·go_simp
         ((go_at_call 30; (with_reducible refine (H_q16.out _ ?_).mono ?_); (focus (exact H_c14.out.trans ((And.right (by assumption : _ ∧ Below w14.heap.size w14 _)).mono H_c14.out.size))); rintro e w16 ⟨rfl, hbw16⟩; have gw16 := Below.trans (And.right (by assumption : _ ∧ Below w14.heap.size w14 _)) (hbw16.mono (Below.size (And.right (by assumption : _ ∧ Below w14.heap.size w14 _)))); have gsw16 := gw16.size; have hcf := bcell hbw16; have hcw16 := hcf.1; have hfw16 := hcf.2; have hsw16 := hbw16.size; (try simp only [World.size_alloc, World.heap_drewN, heap_drew] at hsw16); have H_hbw16 := Lib.hid hbw16; clear hbw16 hcf; (try have hzw16 : w14.heap.size < w16.heap.size := by omega)); (try have hzA : w15.heap.size < w16.heap.size := by omega); (try have hzB : w14.heap.size + 1 < w15.heap.size := by omega); (try have hzC : w14.heap.size + 1 < w16.heap.size := by omega); (try have hzD : w15.heap.size + 1 < w16.heap.size := by omega))
         refine hK.out _ _ ?_ (fun hHeld => ?_)
         ·(try dsimp only); (first | (refine ext_mk ?_; exact belt))
         clear hK K
         (try simp only [Act.put, List.setIfInBounds_toArray, List.set_cons_zero, List.set_cons_succ])
         refine wpAnyH_ready (rs := [6]) (by kernel_rfl) (by simp) ?_
         refine AllReadyH.cons rfl (fun K hK => ?_) AllReadyH.nil
         ·go_simp
          refine hK.out _ _ ?_ (fun hHeld => ?_)
          ·(try dsimp only); (first | (refine ext_mk ?_; exact belt))
          clear hK K
          (try simp only [Act.put, List.setIfInBounds_toArray, List.set_cons_zero, List.set_cons_succ])
          refine wpAnyH_ready (rs := [7]) (by kernel_rfl) (by simp) ?_
          refine AllReadyH.cons rfl (fun K hK => ?_) AllReadyH.nil
          ·go_simp
           refine hK.out _ _ ?_ (fun hHeld => ?_)
           ·(try dsimp only); (first | (refine ext_mk ?_; exact belt))
           clear hK K
           (try simp only [Act.put, List.setIfInBounds_toArray, List.set_cons_zero, List.set_cons_succ])
           refine wpAnyH_done (by kernel_rfl) ?_ _
           (go_wp2_with fail; go_meet; (case rel => exact ⟨_, _, rfl, rfl, by with_reducible exact two_oo (((((blk_new rfl).alloc _).below (Below.refl _ _).drew).below H_hbw15.out).below H_hbw16.out) ((((blk_new (by simp)).below (Below.refl _ _).drew).below H_hbw15.out).below H_hbw16.out) (by first | omega | (simp; omega)) (by first | omega | (simp; omega)) (by first | omega | (simp; omega)) gw16⟩))
     ·go_simp
      refine hK.out _ _ ?_ (fun hHeld => ?_)
      ·(try dsimp only); (first | (refine ext_mk ?_; exact belt))
      clear hK K
      (try simp only [Act.put, List.setIfInBounds_toArray, List.set_cons_zero, List.set_cons_succ])
      refine wpAnyH_ready (rs := [1, 4]) (by kernel_rfl) (by simp) ?_
      refine AllReadyH.cons rfl (fun K hK => ?_) (AllReadyH.cons rfl (fun K hK => ?_) AllReadyH.nil)
      ·go_simp
       (go_at_call 30; (with_reducible refine (H_q15.out _ ?_).mono ?_); (focus (exact H_c14.out.trans ((And.right (by assumption : _ ∧ Below w14.heap.size w14 _)).mono H_c14.out.size))); rintro e w15 ⟨rfl, hbw15⟩; have gw15 := Below.trans (And.right (by assumption : _ ∧ Below w14.heap.size w14 _)) (hbw15.mono (Below.size (And.right (by assumption : _ ∧ Below w14.heap.size w14 _)))); have gsw15 := gw15.size; have hcf := bcell hbw15; have hcw15 := hcf.1; have hfw15 := hcf.2; have hsw15 := hbw15.size; (try simp only [World.size_alloc, World.heap_drewN, heap_drew] at hsw15); have H_hbw15 := Lib.hid hbw15; clear hbw15 hcf; (try have hzw15 : w14.heap.size < w15.heap.size := by omega))
       refine hK.out _ _ ?_ (fun hHeld => ?_)
       ·(try dsimp only); (first | (refine ext_mk ?_; exact belt))
       clear hK K
       (try simp only [Act.put, List.setIfInBounds_toArray, List.set_cons_zero, List.set_cons_succ])
       refine wpAnyH_ready (rs := [3, 4]) (by kernel_rfl) (by simp) ?_
       refine AllReadyH.cons rfl (fun K hK => ?_) (AllReadyH.cons rfl (fun K hK => ?_) AllReadyH.nil)
       ·go_simp
        ((go_at_call 30; (with_reducible refine (H_q16.out _ ?_).mono ?_); (focus (exact H_c14.out.trans ((And.right (by assumption : _ ∧ Below w14.heap.size w14 _)).mono H_c14.out.size))); rintro e w16 ⟨rfl, hbw16⟩; have gw16 := Below.trans (And.right (by assumption : _ ∧ Below w14.heap.size w14 _)) (hbw16.mono (Below.size (And.right (by assumption : _ ∧ Below w14.heap.size w14 _)))); have gsw16 := gw16.size; have hcf := bcell hbw16; have hcw16 := hcf.1; have hfw16 := hcf.2; have hsw16 := hbw16.size; (try simp only [World.size_alloc, World.heap_drewN, heap_drew] at hsw16); have H_hbw16 := Lib.hid hbw16; clear hbw16 hcf; (try have hzw16 : w14.heap.size < w16.heap.size := by omega)); (try have hzA : w15.heap.size < w16.heap.size := by omega); (try have hzB : w14.heap.size + 1 < w15.heap.size := by omega); (try have hzC : w14.heap.size + 1 < w16.heap.size := by omega); (try have hzD : w15.heap.size + 1 < w16.heap.size := by omega))
        refine hK.out _ _ ?_ (fun hHeld => ?_)
        ·(try dsimp only); (first | (refine ext_mk ?_; exact belt))
        clear hK K
        (try simp only [Act.put, List.setIfInBounds_toArray, List.set_cons_zero, List.set_cons_succ])
        refine wpAnyH_ready (rs := [4]) (by kernel_rfl) (by simp) ?_
        refine AllReadyH.cons rfl (fun K hK => ?_) AllReadyH.nil
        ·go_simp
         refine hK.out _ _ ?_ (fun hHeld => ?_)
         ·(try dsimp only); (first | (refine ext_mk ?_; exact belt))
         clear hK K
         (try simp only [Act.put, List.setIfInBounds_toArray, List.set_cons_zero, List.set_cons_succ])
         refine wpAnyH_ready (rs := [6]) (by kernel_rfl) (by simp) ?_
         refine AllReadyH.cons rfl (fun K hK => ?_) AllReadyH.nil
         ·go_simp
          refine hK.out _ _ ?_ (fun hHeld => ?_)
          ·(try dsimp only); (first | (refine ext_mk ?_; exact belt))
          clear hK K
          (try simp only [Act.put, List.setIfInBounds_toArray, List.set_cons_zero, List.set_cons_succ])
          refine wpAnyH_ready (rs := [7]) (by kernel_rfl) (by simp) ?_
          refine AllReadyH.cons rfl (fun K hK => ?_) AllReadyH.nil
          ·go_simp
           refine hK.out _ _ ?_ (fun hHeld => ?_)
           ·(try dsimp only); (first | (refine ext_mk ?_; exact belt))
           clear hK K
           (try simp only [Act.put, List.setIfInBounds_toArray, List.set_cons_zero, List.set_cons_succ])
           refine wpAnyH_done (by kernel_rfl) ?_ _
           (go_wp2_with fail; go_meet; (case rel => exact ⟨_, _, rfl, rfl, by with_reducible exact two_no ((((blk_new rfl).below (Below.refl _ _).drew).below H_hbw15.out).below H_hbw16.out) (by first | omega | (simp; omega)) gw16⟩))
       ·go_simp
        refine hK.out _ _ ?_ (fun hHeld => ?_)
        ·(try dsimp only); (first | (refine ext_mk ?_; exact belt))
        clear hK K
        (try simp only [Act.put, List.setIfInBounds_toArray, List.set_cons_zero, List.set_cons_succ])
        refine wpAnyH_ready (rs := [3]) (by kernel_rfl) (by simp) ?_
        refine AllReadyH.cons rfl (fun K hK => ?_) AllReadyH.nil
        ·go_simp
         ((go_at_call 30; (with_reducible refine (H_q16.out _ ?_).mono ?_); (focus (exact H_c14.out.trans ((And.right (by assumption : _ ∧ Below w14.heap.size w14 _)).mono H_c14.out.size))); rintro e w16 ⟨rfl, hbw16⟩; have gw16 := Below.trans (And.right (by assumption : _ ∧ Below w14.heap.size w14 _)) (hbw16.mono (Below.size (And.right (by assumption : _ ∧ Below w14.heap.size w14 _)))); have gsw16 := gw16.size; have hcf := bcell hbw16; have hcw16 := hcf.1; have hfw16 := hcf.2; have hsw16 := hbw16.size; (try simp only [World.size_alloc, World.heap_drewN, heap_drew] at hsw16); have H_hbw16 := Lib.hid hbw16; clear hbw16 hcf; (try have hzw16 : w14.heap.size < w16.heap.size := by omega)); (try have hzA : w15.heap.size < w16.heap.size := by omega); (try have hzB : w14.heap.size + 1 < w15.heap.size := by omega); (try have hzC : w14.heap.size + 1 < w16.heap.size := by omega); (try have hzD : w15.heap.size + 1 < w16.heap.size := by omega))
         refine hK.out _ _ ?_ (fun hHeld => ?_)
         ·(try dsimp only); (first | (refine ext_mk ?_; exact belt))
         clear hK K
         (try simp only [Act.put, List.setIfInBounds_toArray, List.set_cons_zero, List.set_cons_succ])
         refine wpAnyH_ready (rs := [6]) (by kernel_rfl) (by simp) ?_
         refine AllReadyH.cons rfl (fun K hK => ?_) AllReadyH.nil
         ·go_simp
          refine hK.out _ _ ?_ (fun hHeld => ?_)
          ·(try dsimp only); (first | (refine ext_mk ?_; exact belt))
          clear hK K
          (try simp only [Act.put, List.setIfInBounds_toArray, List.set_cons_zero, List.set_cons_succ])
          refine wpAnyH_ready (rs := [7]) (by kernel_rfl) (by simp) ?_
          refine AllReadyH.cons rfl (fun K hK => ?_) AllReadyH.nil
          ·go_simp
           refine hK.out _ _ ?_ (fun hHeld => ?_)
           ·(try dsimp only); (first | (refine ext_mk ?_; exact belt))
           clear hK K
           (try simp only [Act.put, List.setIfInBounds_toArray, List.set_cons_zero, List.set_cons_succ])
           refine wpAnyH_done (by kernel_rfl) ?_ _
           (go_wp2_with fail; go_meet; (case rel => exact ⟨_, _, rfl, rfl, by with_reducible exact two_oo ((blk_new rfl).below H_hbw16.out) (((((blk_new rfl).below (Below.refl _ _).drew).below H_hbw15.out).alloc _).below H_hbw16.out) (by first | omega | (simp; omega)) (by first | omega | (simp; omega)) (by first | omega | (simp; omega)) gw16⟩))
      ·go_simp
       refine hK.out _ _ ?_ (fun hHeld => ?_)
       ·(try dsimp only); (first | (refine ext_mk ?_; exact belt))
       clear hK K
       (try simp only [Act.put, List.setIfInBounds_toArray, List.set_cons_zero, List.set_cons_succ])
       refine wpAnyH_ready (rs := [1]) (by kernel_rfl) (by simp) ?_
       refine AllReadyH.cons rfl (fun K hK => ?_) AllReadyH.nil
       ·go_simp
        (go_at_call 30; (with_reducible refine (H_q15.out _ ?_).mono ?_); (focus (exact H_c14.out.trans ((And.right (by assumption : _ ∧ Below w14.heap.size w14 _)).mono H_c14.out.size))); rintro e w15 ⟨rfl, hbw15⟩; have gw15 := Below.trans (And.right (by assumption : _ ∧ Below w14.heap.size w14 _)) (hbw15.mono (Below.size (And.right (by assumption : _ ∧ Below w14.heap.size w14 _)))); have gsw15 := gw15.size; have hcf := bcell hbw15; have hcw15 := hcf.1; have hfw15 := hcf.2; have hsw15 := hbw15.size; (try simp only [World.size_alloc, World.heap_drewN, heap_drew] at hsw15); have H_hbw15 := Lib.hid hbw15; clear hbw15 hcf; (try have hzw15 : w14.heap.size < w15.heap.size := by omega))
        refine hK.out _ _ ?_ (fun hHeld => ?_)
        ·(try dsimp only); (first | (refine ext_mk ?_; exact belt))
        clear hK K
        (try simp only [Act.put, List.setIfInBounds_toArray, List.set_cons_zero, List.set_cons_succ])
        refine wpAnyH_ready (rs := [3]) (by kernel_rfl) (by simp) ?_
        refine AllReadyH.cons rfl (fun K hK => ?_) AllReadyH.nil
        ·go_simp
         ((go_at_call 30; (with_reducible refine (H_q16.out _ ?_).mono ?_); (focus (exact H_c14.out.trans ((And.right (by assumption : _ ∧ Below w14.heap.size w14 _)).mono H_c14.out.size))); rintro e w16 ⟨rfl, hbw16⟩; have gw16 := Below.trans (And.right (by assumption : _ ∧ Below w14.heap.size w14 _)) (hbw16.mono (Below.size (And.right (by assumption : _ ∧ Below w14.heap.size w14 _)))); have gsw16 := gw16.size; have hcf := bcell hbw16; have hcw16 := hcf.1; have hfw16 := hcf.2; have hsw16 := hbw16.size; (try simp only [World.size_alloc, World.heap_drewN, heap_drew] at hsw16); have H_hbw16 := Lib.hid hbw16; clear hbw16 hcf; (try have hzw16 : w14.heap.size < w16.heap.size := by omega)); (try have hzA : w15.heap.size < w16.heap.size := by omega); (try have hzB : w14.heap.size + 1 < w15.heap.size := by omega); (try have hzC : w14.heap.size + 1 < w16.heap.size := by omega); (try have hzD : w15.heap.size + 1 < w16.heap.size := by omega))
         refine hK.out _ _ ?_ (fun hHeld => ?_)
         ·(try dsimp only); (first | (refine ext_mk ?_; exact belt))
         clear hK K
         (try simp only [Act.put, List.setIfInBounds_toArray, List.set_cons_zero, List.set_cons_succ])
         refine wpAnyH_ready (rs := [6]) (by kernel_rfl) (by simp) ?_
         refine AllReadyH.cons rfl (fun K hK => ?_) AllReadyH.nil
         ·go_simp
          refine hK.out _ _ ?_ (fun hHeld => ?_)
          ·(try dsimp only); (first | (refine ext_mk ?_; exact belt))
          clear hK K
          (try simp only [Act.put, List.setIfInBounds_toArray, List.set_cons_zero, List.set_cons_succ])
          refine wpAnyH_ready (rs := [7]) (by kernel_rfl) (by simp) ?_
          refine AllReadyH.cons rfl (fun K hK => ?_) AllReadyH.nil
          ·go_simp
           refine hK.out _ _ ?_ (fun hHeld => ?_)
           ·(try dsimp only); (first | (refine ext_mk ?_; exact belt))
           clear hK K
           (try simp only [Act.put, List.setIfInBounds_toArray, List.set_cons_zero, List.set_cons_succ])
           refine wpAnyH_done (by kernel_rfl) ?_ _
           (go_wp2_with fail; go_meet; (case rel => exact ⟨_, _, rfl, rfl, by with_reducible exact two_oo ((((blk_new (by simp)).below (Below.refl _ _).drew).below H_hbw15.out).below H_hbw16.out) (((((blk_new rfl).alloc _).below (Below.refl _ _).drew).below H_hbw15.out).below H_hbw16.out) (by first | omega | (simp; omega)) (by first | omega | (simp; omega)) (by first | omega | (simp; omega)) gw16⟩))
    case rest =>
     obtain ⟨g, h, rfl, rfl, ⟨hg14, hh14, hgh2⟩, bg17, bh17, c17⟩ := hcut
     obtain ⟨w17, hw17⟩ : ∃ W, wc = W := ⟨_, rfl⟩
     rw [hw17] at bg17 bh17 c17 ⊢
     have s17 := c17.size
     have bb17 := H_bb14.out.trans (c17.mono H_bb14.out.size)
     clear ly lv
     clear y0 y1 y2 y3 y4 y5 y6 y7 y8 y9 y10 y11
     clear v0 v1 v2 v3 v4 v5 v6 v7 v8 v9 v10 v11
     have q18 := H_q14.out w17 K3 K4 t3 t4 H_hkR.out H_hkN.out (H_sr14.out.below c17).ints (H_sn14.out.below c17).ints
     have ⟨H_hw17, H_bg17, H_bh17, H_c17, H_bb17, H_q18⟩ := hid6 hw17 bg17 bh17 c17 bb17 q18; clear hw17 bg17 bh17 c17 bb17 q18
     obtain ⟨y0, y1, y2, y3⟩ := at4_of H_bg17.out
     obtain ⟨v0, v1, v2, v3⟩ := at4_of H_bh17.out
     go_wp2_with fail
     (with_reducible refine (H_q18.out).mono ?_)
     rintro e w18 ⟨rfl, b18⟩
     have c18 : Below w17.heap.size w17 w18 := Below.trans belt (b18.mono omh)
     have s18 := c18.size
     have bb18 := H_bb17.out.trans (c18.mono H_bb17.out.size)
     have ⟨H_b18, H_c18, H_bb18⟩ := hid3 b18 c18 bb18; clear b18 c18 bb18
     go_wp2_with fail
     go_ret
     exact ⟨rfl, H_bb18.out⟩
end Go.Proofs.YtoehobaigfmnpaaDoor

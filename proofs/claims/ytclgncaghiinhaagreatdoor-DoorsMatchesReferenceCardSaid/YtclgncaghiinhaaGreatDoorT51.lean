/- The walk of DoorsMatchesReference. -/
import Derived.Test.YtclgncaghiinhaaGreatDoorT33
import Derived.Test.YtclgncaghiinhaaGreatDoorT34
import Derived.Test.YtclgncaghiinhaaGreatDoorT41
import Derived.Test.YtclgncaghiinhaaGreatDoorT42
import Derived.Test.YtclgncaghiinhaaGreatDoorT50
set_option linter.unusedSimpArgs false
set_option linter.unusedVariables false
set_option maxRecDepth 100000
namespace Go.Proofs.YtclgncaghiinhaaGreatDoor
open Go.RowKit
theorem runL_le {ls : List Lk} {cs : List Crd} {ss : List Sh4} : (runL ls cs ss).length ≤ ls.length ∧ (runW ls cs ss).length ≤ ss.length := by
 cases h : runB ls cs ss with
 | true => exact ⟨Nat.le_of_eq (ran h).2.2.2.2, Nat.le_of_eq (ran h).2.1⟩
 | false => rw [(ran_not h).1, (ran_not h).2.2]; exact ⟨Nat.zero_le _, Nat.zero_le _⟩
set_option maxRecDepth 100000 in
set_option maxHeartbeats 32000000 in
theorem doorsMatchesReference_walk (A : Option Addr) (cp : Nat) (Ps : List LkP) (X : Option Addr) (cx : Nat) (cs : List Crd) (Y : Option Addr) (cy : Nat) (ss : List Sh4) (c : Crd) (key t : Int) (w : World) (hl : LocksArg w A Ps) (hlc : Ps.length ≤ cp) (hlm : cp ≤ maxLen) (hcs : Cards w X cs) (hcc : cs.length ≤ cx) (hcm : cx ≤ maxLen) (hss : Shows w Y ss) (hsc : ss.length ≤ cy) (hsm : cy ≤ maxLen) (hc : CFit c) (_hkey : (Lit.int .i64 key).wf = true) (_hti : (Lit.int .i64 t).wf = true) (ht : Tab w) :
  Calls Tryz.prog 3 #[.slice A Ps.length cp, .slice X cs.length cx, .slice Y ss.length cy, .agg c.cells.toArray, .int .i64 key, .int .i64 t] w fun e w' => e = .returned (.bool true) ∧ Below w.heap.size w w' := by
 unfold maxLen at hlm hcm hsm
 obtain ⟨w0, hw0⟩ : ∃ W, w.alloc (.cells c.cells.toArray 28) = W := ⟨_, rfl⟩
 have bb0 : Below w.heap.size w w0 := by rw [← hw0]; exact (Below.refl _ _).alloc (Nat.le_refl _) _
 have k0 : Blk w0 w.heap.size c.cells.toArray := by rw [← hw0]; exact blk_new rfl
 have q1 := fun W (h : Below w.heap.size w W) => head38_any W (ht.below h)
 have q2 := fun W (h : Below w.heap.size w W) => rdfew_any A cp Ps.length Ps X cx cs.length Y cy ss.length W rfl (by omega) (by omega) (by omega) (hl.below h)
 cases hF : fewD Ps Ps.length cs.length ss.length with
 | false =>
  rw [hF] at q2
  generalize Ps.length = n at *
  generalize cs.length = m at *
  generalize ss.length = k at *
  unfold Crd.cells at hw0 ⊢
  have ⟨Hq1, Hq2, Hbb0, Hk0, Hhw0, Hhl, Hhcs, Hhss⟩ := hid8 q1 q2 bb0 k0 hw0 hl hcs hss; clear q1 q2 bb0 k0 hw0 hl hcs hss; have ⟨Hht, HhF, Hhc⟩ := hid3 ht hF hc; clear ht hF hc
  go_enter Tryz.func3, Tryz.ntmps3
  go_upto_region 1 with (fail)
  rw [Hhw0.out]
  go_wp2_with fail
  (with_reducible refine (Hq1.out _ ?_).mono ?_)
  ·exact Hbb0.out.trans ((show Below w0.heap.size w0 _ from belt).mono Hbb0.out.size)
  rintro e w1 ⟨rfl, b1⟩
  have c1 : Below w0.heap.size w0 w1 := Below.trans belt (b1.mono omh)
  have s1 := c1.size
  have bb1 := Hbb0.out.trans (c1.mono Hbb0.out.size)
  have ⟨Hb1, Hc1, Hbb1⟩ := hid3 b1 c1 bb1; clear b1 c1 bb1
  go_wp2_with fail
  (with_reducible refine (Hq2.out _ ?_).mono ?_)
  ·exact Hbb1.out.trans ((show Below w1.heap.size w1 _ from belt).mono Hbb1.out.size)
  rintro e w2 ⟨rfl, b2⟩
  have c2 : Below w1.heap.size w1 w2 := Below.trans belt (b2.mono omh)
  have s2 := c2.size
  have bb2 := Hbb1.out.trans (c2.mono Hbb1.out.size)
  have ⟨Hb2, Hc2, Hbb2⟩ := hid3 b2 c2 bb2; clear b2 c2 bb2
  go_wp2_with fail
  go_ret
  exact ⟨rfl, Hbb2.out⟩
 | true =>
  rw [hF] at q2
  obtain ⟨hL, n10, m20, k20⟩ := few_locks hl hF
  have q3 := fun W (h : Below w.heap.size w W) => drun_any A cp Ps.length Ps X cx cs.length cs Y cy ss.length ss W rfl rfl rfl (by omega) (by omega) (by omega) (hL.below h) (hcs.below h) (hss.below h) (ht.below h)
  have q4 := fun W (h : Below w.heap.size w W) => rrun_any A cp Ps.length Ps X cx cs.length cs Y cy ss.length ss W rfl rfl rfl (by omega) (by omega) (by omega) (hL.below h) (hcs.below h) (hss.below h)
  have q7 := fun W (h : Below w.heap.size w W) => dmay_any c key X cx cs.length cs t W hc rfl (by omega) (hcs.below h) (ht.below h)
  have q8 := fun W (h : Below w.heap.size w W) => rmay38_any c key X cx cs.length cs t W hc rfl (by omega) (hcs.below h)
  obtain ⟨rl1, rl2⟩ := @runL_le (Ps.map LkP.L) cs ss
  rw [List.length_map] at rl1
  generalize runL (Ps.map LkP.L) cs ss = RL at *
  generalize runW (Ps.map LkP.L) cs ss = RW at *
  generalize runN (Ps.map LkP.L) cs ss = RN at *
  generalize mayR cs c key t = MR at *
  generalize mayE cs c key t = ME at *
  have rn10 : RL.length ≤ 10 := by omega
  have rm20 : RW.length ≤ 20 := by omega
  generalize Ps.length = n at *
  generalize cs.length = m at *
  generalize ss.length = k at *
  obtain ⟨rn, hrn⟩ : ∃ n, RL.length = n := ⟨_, rfl⟩
  obtain ⟨rm, hrm⟩ : ∃ n, RW.length = n := ⟨_, rfl⟩
  unfold RunRes at q3 q4
  rw [hrn, hrm] at q3 q4
  rw [hrn] at rn10
  rw [hrm] at rm20
  clear rl1 rl2 hlc hcc hsc hlm hcm hsm hF hl
  unfold Crd.cells at hw0 k0 q7 q8 ⊢
  (try dsimp only at q7 q8)
  have ⟨Hq1, Hq2, Hq3, Hq4, Hq7, Hq8, Hbb0, Hk0⟩ := hid8 q1 q2 q3 q4 q7 q8 bb0 k0; clear q1 q2 q3 q4 q7 q8 bb0 k0; have ⟨Hhw0, HhL, Hhcs, Hhss, Hht, Hhrn, Hhrm, Hhc⟩ := hid8 hw0 hL hcs hss ht hrn hrm hc; clear hw0 hL hcs hss ht hrn hrm hc
  go_enter Tryz.func3, Tryz.ntmps3
  go_upto_region 1 with (fail)
  rw [Hhw0.out]
  go_wp2_with fail
  (with_reducible refine (Hq1.out _ ?_).mono ?_)
  ·exact Hbb0.out.trans ((show Below w0.heap.size w0 _ from belt).mono Hbb0.out.size)
  rintro e w1 ⟨rfl, b1⟩
  have c1 : Below w0.heap.size w0 w1 := Below.trans belt (b1.mono omh)
  have s1 := c1.size
  have bb1 := Hbb0.out.trans (c1.mono Hbb0.out.size)
  have k1 := Hk0.out.below c1
  have ⟨Hb1, Hc1, Hbb1, Hk1⟩ := hid4 b1 c1 bb1 k1; clear b1 c1 bb1 k1
  go_wp2_with fail
  (with_reducible refine (Hq2.out _ ?_).mono ?_)
  ·exact Hbb1.out.trans ((show Below w1.heap.size w1 _ from belt).mono Hbb1.out.size)
  rintro e w2 ⟨rfl, b2⟩
  have c2 : Below w1.heap.size w1 w2 := Below.trans belt (b2.mono omh)
  have s2 := c2.size
  have bb2 := Hbb1.out.trans (c2.mono Hbb1.out.size)
  have k2 := Hk1.out.below c2
  have ⟨Hb2, Hc2, Hbb2, Hk2⟩ := hid4 b2 c2 bb2 k2; clear b2 c2 bb2 k2
  go_wp2_with fail
  (with_reducible refine (Hq3.out _ ?_).mono ?_)
  ·exact Hbb2.out.trans ((show Below w2.heap.size w2 _ from belt).mono Hbb2.out.size)
  rintro e w3 ⟨A3, c3, P3, O3, k3', rfl, hp3, l3, o3, _, _, b3⟩
  have c3 : Below w2.heap.size w2 w3 := Below.trans belt (b3.mono omh)
  have s3 := c3.size
  have bb3 := Hbb2.out.trans (c3.mono Hbb2.out.size)
  have k3 := Hk2.out.below c3
  have ⟨Hb3, Hc3, Hbb3, Hk3⟩ := hid4 b3 c3 bb3 k3; clear b3 c3 bb3 k3
  have ⟨Hhp3, Hl3, Ho3⟩ := hid3 hp3 l3 o3; clear hp3 l3 o3
  go_wp2_with fail
  (with_reducible refine (Hq4.out _ ?_).mono ?_)
  ·exact Hbb3.out.trans ((show Below w3.heap.size w3 _ from belt).mono Hbb3.out.size)
  rintro e w4 ⟨A4, c4, P4, O4, k4', rfl, hp4, l4, o4, _, _, b4⟩
  have c4 : Below w3.heap.size w3 w4 := Below.trans belt (b4.mono omh)
  have s4 := c4.size
  have bb4 := Hbb3.out.trans (c4.mono Hbb3.out.size)
  have k4 := Hk3.out.below c4
  have ⟨Hb4, Hc4, Hbb4, Hk4⟩ := hid4 b4 c4 bb4 k4; clear b4 c4 bb4 k4
  have l34 := Hl3.out.below Hb4.out
  have o34 := Bls.below Ho3.out Hb4.out
  have lp3 : P3.length = rn := by rw [← Hhrn.out, ← Hhp3.out, List.length_map]
  have q5 := fun W (h : Below w4.heap.size w4 W) => rdlocks_self A3 c3 rn P3 A4 c4 P4 W lp3 (by omega) (hp4.trans Hhp3.out.symm) (l34.below h) (l4.below h)
  have q6 := fun W (h : Below w4.heap.size w4 W) => rdbools_any O3 k3' rm RW O4 k4' rm RW W Hhrm.out Hhrm.out (by omega) (by omega) (Bls.below o34 h) (Bls.below o4 h)
  have e6 : decide (RW = RW) = true := decide_eq_true rfl
  rw [e6] at q6
  have ⟨Hhp4, Hl4, Ho4, Hl34, Ho34, Hlp3, Hq5, Hq6⟩ := hid8 hp4 l4 o4 l34 o34 lp3 q5 q6; clear hp4 l4 o4 l34 o34 lp3 q5 q6; have He6 := Lib.hid e6; clear e6
  go_wp2_with fail
  (with_reducible refine (Hq5.out _ ?_).mono ?_)
  ·exact (show Below w4.heap.size w4 _ from belt)
  rintro e w5 ⟨rfl, b5⟩
  have c5 : Below w4.heap.size w4 w5 := Below.trans belt (b5.mono omh)
  have s5 := c5.size
  have bb5 := Hbb4.out.trans (c5.mono Hbb4.out.size)
  have k5 := Hk4.out.below c5
  have ⟨Hb5, Hc5, Hbb5, Hk5⟩ := hid4 b5 c5 bb5 k5; clear b5 c5 bb5 k5
  go_wp2_with fail
  (with_reducible refine (Hq6.out _ ?_).mono ?_)
  ·exact Hb5.out.trans ((show Below w5.heap.size w5 _ from belt).mono Hb5.out.size)
  rintro e w6 ⟨rfl, b6⟩
  have c6 : Below w5.heap.size w5 w6 := Below.trans belt (b6.mono omh)
  have s6 := c6.size
  have bb6 := Hbb5.out.trans (c6.mono Hbb5.out.size)
  have k6 := Hk5.out.below c6
  have ⟨Hb6, Hc6, Hbb6, Hk6⟩ := hid4 b6 c6 bb6 k6; clear b6 c6 bb6 k6
  obtain ⟨y0, y1, y2, y3, y4, y5, y6, y7, y8⟩ := at9_of Hk6.out
  go_wp2_with fail
  (with_reducible refine (Hq7.out _ ?_).mono ?_)
  ·exact Hbb6.out.trans ((show Below w6.heap.size w6 _ from belt).mono Hbb6.out.size)
  rintro e w7 ⟨rfl, b7⟩
  have c7 : Below w6.heap.size w6 w7 := Below.trans belt (b7.mono omh)
  have s7 := c7.size
  have bb7 := Hbb6.out.trans (c7.mono Hbb6.out.size)
  have k7 := Hk6.out.below c7
  have ⟨Hb7, Hc7, Hbb7, Hk7⟩ := hid4 b7 c7 bb7 k7; clear b7 c7 bb7 k7
  clear y0 y1 y2 y3 y4 y5 y6 y7 y8
  obtain ⟨y0, y1, y2, y3, y4, y5, y6, y7, y8⟩ := at9_of Hk7.out
  go_wp2_with fail
  (with_reducible refine (Hq8.out _ ?_).mono ?_)
  ·exact Hbb7.out.trans ((show Below w7.heap.size w7 _ from belt).mono Hbb7.out.size)
  rintro e w8 ⟨rfl, b8⟩
  have c8 : Below w7.heap.size w7 w8 := Below.trans belt (b8.mono omh)
  have s8 := c8.size
  have bb8 := Hbb7.out.trans (c8.mono Hbb7.out.size)
  have k8 := Hk7.out.below c8
  have ⟨Hb8, Hc8, Hbb8, Hk8⟩ := hid4 b8 c8 bb8 k8; clear b8 c8 bb8 k8
  clear y0 y1 y2 y3 y4 y5 y6 y7 y8
  go_wp2_with fail
  go_ret
  exact ⟨by simp, Hbb8.out⟩
end Go.Proofs.YtclgncaghiinhaaGreatDoor

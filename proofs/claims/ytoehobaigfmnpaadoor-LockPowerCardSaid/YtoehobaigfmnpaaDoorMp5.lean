/- The statement of innkeeperlaw37.LockPower: for every input the call returns true, and each argument reads afterwards as it read before. No condition. -/
import Derived.Test.YtoehobaigfmnpaaDoorRows
import Derived.Test.YtoehobaigfmnpaaDoorCards
import Derived.Test.YtoehobaigfmnpaaDoorTie
import Derived.Test.YtoehobaigfmnpaaDoorChecked
import Derived.WalkKit
import Derived.WalkSpells
import Derived.WalkLawsBesides
import Derived.Deep.QuietTactic
import Derived.BigQuiet
import Derived.BigGuardPart
import Derived.Lib.Hide
import Derived.Below
import Derived.IntWalk
import Derived.Laws.Rows
import Derived.OneCell
import Derived.Outline
import Derived.Deep.RegionHeld3
import Derived.Deep.RegionWith
import Derived.Maps.AppendAt
import Derived.Deep.AppendLies
import Derived.Laws.OwnMore
import Derived.OwnWalk
import Derived.Laws.BitsAllLaws
import Derived.Lib.ItoaNum
import Derived.Lib.ItoaLen
import Derived.Shelf.Small.Wraps
import Derived.Shelf.Strconv.Itoa0
import Derived.Shelf.Strconv.Itoa1
import Derived.Shelf.LaysM
import Derived.Shelf.Strconv.Itoa2
import Derived.Shelf.Strconv.Itoa3
import Derived.Shelf.Slices.Turned
import Derived.Shelf.Slices.Reverse
import Derived.Ground.Names2Prog
import Derived.Shelf.Slices.Clone
import Derived.Shelf.Slices.SearchI
import Derived.Shelf.Slices.Cells
import Derived.Shelf.Slices.Empties
import Derived.Test.YtoehobaigfmnpaaDoorProg
import Derived.Lib.AppendIntMem
import Derived.Lib.OthersKept
import Derived.ProofKit
import Derived.LaidMore
import Derived.Stop.LaidErr
import Derived.Lib.LaidTab
import Derived.SevenTiedAt
import Derived.OpenShut
import Derived.ShutString
import Derived.ChangeOld
import Derived.Carry
import Derived.Lib.SmallJoins
import Derived.Test.YtoehobaigfmnpaaDoorMr1
import Derived.Test.YtoehobaigfmnpaaDoorMr2
import Derived.Test.YtoehobaigfmnpaaDoorMr3
import Derived.Test.YtoehobaigfmnpaaDoorMr4
import Derived.Test.YtoehobaigfmnpaaDoorMr5
import Derived.Test.YtoehobaigfmnpaaDoorMr6
import Derived.Test.YtoehobaigfmnpaaDoorMr7
import Derived.Test.YtoehobaigfmnpaaDoorMr8
import Derived.Test.YtoehobaigfmnpaaDoorMr9
import Derived.Test.YtoehobaigfmnpaaDoorMr10
import Derived.Test.YtoehobaigfmnpaaDoorMr11
import Derived.Test.YtoehobaigfmnpaaDoorMr12
import Derived.Test.YtoehobaigfmnpaaDoorMr13
import Derived.Test.YtoehobaigfmnpaaDoorMr14
import Derived.Test.YtoehobaigfmnpaaDoorMr15
import Derived.Test.YtoehobaigfmnpaaDoorMr16
import Derived.Test.YtoehobaigfmnpaaDoorMr17
import Derived.Test.YtoehobaigfmnpaaDoorMr18
import Derived.Test.YtoehobaigfmnpaaDoorMr19
import Derived.Test.YtoehobaigfmnpaaDoorMr20
import Derived.Test.YtoehobaigfmnpaaDoorMr21
import Derived.Test.YtoehobaigfmnpaaDoorMr22
import Derived.Test.YtoehobaigfmnpaaDoorMr23
import Derived.Test.YtoehobaigfmnpaaDoorMr24
import Derived.Test.YtoehobaigfmnpaaDoorMr25
import Derived.Test.YtoehobaigfmnpaaDoorMr26
import Derived.Test.YtoehobaigfmnpaaDoorMr27
import Derived.Test.YtoehobaigfmnpaaDoorMr28
import Derived.Test.YtoehobaigfmnpaaDoorMr29
import Derived.Test.YtoehobaigfmnpaaDoorMr30
import Derived.Test.YtoehobaigfmnpaaDoorMr31
import Derived.Test.YtoehobaigfmnpaaDoorMr32
import Derived.Test.YtoehobaigfmnpaaDoorMr33
import Derived.Test.YtoehobaigfmnpaaDoorMr34
import Derived.Test.YtoehobaigfmnpaaDoorMr35
import Derived.Test.YtoehobaigfmnpaaDoorMr36
import Derived.Test.YtoehobaigfmnpaaDoorMr37
import Derived.Test.YtoehobaigfmnpaaDoorMr38
import Derived.Test.YtoehobaigfmnpaaDoorMr39
import Derived.Test.YtoehobaigfmnpaaDoorMr40
import Derived.Test.YtoehobaigfmnpaaDoorMr41
import Derived.Test.YtoehobaigfmnpaaDoorMr42
import Derived.Test.YtoehobaigfmnpaaDoorMr43
import Derived.Test.YtoehobaigfmnpaaDoorMr44
import Derived.Test.YtoehobaigfmnpaaDoorMr45
import Derived.Test.YtoehobaigfmnpaaDoorMr46
import Derived.Test.YtoehobaigfmnpaaDoorMr47
import Derived.Test.YtoehobaigfmnpaaDoorMr48
import Derived.Test.YtoehobaigfmnpaaDoorMp1
import Derived.Test.YtoehobaigfmnpaaDoorMp4
namespace Go.Proofs.YtoehobaigfmnpaaDoor.lawLockPower
set_option linter.unusedSimpArgs false
set_option linter.unusedVariables false
set_option maxRecDepth 100000
open Go.ChangeShapes Go.WideShapes Go.ChangeAt Go.RowKit Go.Joins
open Go.ChangeMaps (open_string shut_string)
set_option maxRecDepth 100000 in
set_option maxHeartbeats 1000000 in
theorem lifted (os : Os) (started : os.Started) (H : Type) (enc : TypeId × Value → H) :
    ReturnsInHanded {} Tryd.checked os 8 .any (fun w args => (Rows.lockPowerSpec.pre enc Tryd.prog Tryd.f8 [] false w args ∧ laidMetH Tryd.prog seatLaid w) ∧ sizedMet enc Tryd.prog Tryd.f8 (OpenSpec.ofChange Rows.lockPowerSpec) false w args)
      (Rows.lockPowerSpec.post enc Tryd.prog Tryd.f8 false true false false) := by
  refine returnsInHanded_of_change_and (C := Tryd.checked) (X := fun w _ => laidMetH Tryd.prog seatLaid w) (fun _ _ _ hh h => h.of_heap hh) own started (by kernel_rfl) Tryd.func8
    (ChangeSpec.witness_shaped (enc := enc) (C := Tryd.checked) (os := os) (X := fun w _ => laidMetH Tryd.prog seatLaid w) false (World.doorLaid Tryd.prog 24 os) #[.agg #[.int .i64 0, .int .i64 0, .int .i64 0, .int .i64 0, .int .i64 0, .slice none 0 0, .int .u64 0, .int .i64 0, .int .i64 0, .slice none 0 0, .int .u64 0, .bool false], .agg #[.int .i64 0, .int .i64 0, .int .i64 0, .int .i64 0, .int .i64 0, .int .i64 0, .int .i64 0, .int .i64 0, .int .i64 0], .int .i64 0, .int .u8 0] 8 rfl (World.shaped_of_RefB (by kernel_rfl) (by kernel_rfl)) (by kernel_rfl) (by kernel_rfl) (by kernel_rfl) (door_met os _)) ?_
  intro W base args ds gs before hval0 hW hcnd hsz hL _
  have hTab := tab_of_laid hL
  have hval : ∀ (j : Nat) t v, Tryd.f8.params[j]? = some t → args[j]? = some v → Value.okWide Tryd.prog W .any base t v := hval0
  have hW' := hW
  obtain ⟨p, q, hA0, hV, rfl, hfz, hnd⟩ := hW
  have hA : DataW.TrodAll enc Tryd.prog W 0 (fun _ => true) true Tryd.f8.params.toList args.toList ds p := hA0
  rw [Tryd.params8] at hA hval
  obtain ⟨v0, vs0, d0, ds0, p0, q0, hargs, rfl, rfl, h0, r0⟩ := trodAll_cons hA
  obtain ⟨v1, vs1, d1, ds1, p1, q1, rfl, rfl, rfl, h1, r1⟩ := trodAll_cons r0
  obtain ⟨v2, vs2, d2, ds2, p2, q2, rfl, rfl, rfl, h2, r2⟩ := trodAll_cons r1
  obtain ⟨v3, vs3, d3, ds3, p3, q3, rfl, rfl, rfl, h3, r3⟩ := trodAll_cons r2
  obtain ⟨rfl, rfl, rfl⟩ := trodAll_nil r3
  obtain rfl : args = #[v0, v1, v2, v3] := by cases args; simp_all
  obtain ⟨rfl, rfl⟩ := trodVars_none hV
  have k0 := h0
  have lt0 : ∀ x ∈ p0, x.block < W.heap.size := by obtain ⟨m, hm⟩ := k0; exact DataW.trod_lt m _ _ _ hm
  have k1 := h1
  have lt1 : ∀ x ∈ p1, x.block < W.heap.size := by obtain ⟨m, hm⟩ := k1; exact DataW.trod_lt m _ _ _ hm
  have k2 := h2
  have lt2 : ∀ x ∈ p2, x.block < W.heap.size := by obtain ⟨m, hm⟩ := k2; exact DataW.trod_lt m _ _ _ hm
  have k3 := h3
  have lt3 : ∀ x ∈ p3, x.block < W.heap.size := by obtain ⟨m, hm⟩ := k3; exact DataW.trod_lt m _ _ _ hm
  obtain ⟨l0, A0, n0, c0, B0, m0, q0, rfl, sx0, sy0, lf0⟩ := open_lock (hval 0 55 v0 rfl rfl) h0
  obtain ⟨x1, rfl, f1⟩ := open_card (hval 1 31 v1 rfl rfl) h1
  obtain ⟨a2, rfl, rfl, rfl, w2⟩ := open_int Tryd.underlying3 (hval 2 3 v2 rfl rfl) h2
  obtain ⟨a3, rfl, rfl, rfl, w3⟩ := open_int Tryd.underlying5 (hval 3 5 v3 rfl rfl) h3
  clear hA0 hval0
  refine (lockPower_walk l0 A0 n0 c0 B0 m0 q0 x1 a2 a3 W sx0 sy0 lf0 f1 w2 w3 hTab).mono fun e W' ⟨he, bel⟩ => ?_
  subst he
  exact ⟨_, rfl, _, _, _, [], _, [], hW', trodAll_mk1 (shut_bool Tryd.underlying4 _), (trodAll_cons_mk (Below.trod laidOut (by kernel_rfl) (of_decide_eq_true (by kernel_rfl)) k0 bel lt0) (trodAll_cons_mk (Below.trod laidOut (by kernel_rfl) (of_decide_eq_true (by kernel_rfl)) k1 bel lt1) (trodAll_cons_mk (Below.trod laidOut (by kernel_rfl) (of_decide_eq_true (by kernel_rfl)) k2 bel lt2) (trodAll_cons_mk (Below.trod laidOut (by kernel_rfl) (of_decide_eq_true (by kernel_rfl)) k3 bel lt3) trodAll_mk0)))), rfl, bel.frame _, fun h => by cases h⟩

theorem over : Rows.lockPowerRow.holds Tryd.pinned (OpenSpec.ofChange Rows.lockPowerSpec) :=
  OpenClaim.holds_of_wide 8 Tryd.f8 rfl rfl rfl rfl rfl rfl rfl ⟨rfl, rfl, rfl, rfl, rfl⟩ rfl rfl rfl rfl rfl (by kernel_rfl) Tryd.func8 (by kernel_rfl)
    (of_decide_eq_true (by kernel_rfl)) (by unfold Func.isWrapper; first | (rw [if_pos (by decide +kernel)]; kernel_rfl) | (rw [if_neg (by decide +kernel)]; exact ⟨rfl, rfl⟩))
    (fun os started H enc _ => lifted os started H enc)

theorem proved : Rows.LockPowerCardSaid :=
  Claim7.holds_tied_plain_at .later [] [.data, .data, .data] true (true, "c5f4ea40b73083b519158711bd070e514f12e7bcba30d8054d17fcf88c2f9717") false
    over (fun _ h => by cases h) (by kernel_rfl) (fun _ h => by cases h) lockPower_row_tie rfl ⟨rfl, rfl⟩ (by kernel_rfl) rfl
    (fun f fn hf hfn => by
      obtain rfl : f = 8 := Option.some.inj ((show Tryd.prog.funcNamed "innkeeper/innkeeperlaw37.LockPower" = some 8 by kernel_rfl).symm.trans hf) |>.symm
      obtain rfl : fn = Tryd.f8 := (Option.some.inj (Tryd.func8.symm.trans hfn)).symm
      exact ⟨by kernel_rfl, fun j t ht => by
        rw [Tryd.params8] at ht
        have hm : t ∈ [55, 31, 3, 5] := by simpa using Array.mem_of_getElem? ht
        have hall : ([55, 31, 3, 5].all fun u => !Tryd.prog.wantsStandIn u) = true := by kernel_rfl
        exact (show Tryd.prog.wantsStandIn t = false by simpa using List.all_eq_true.1 hall t hm)⟩)
    (by kernel_rfl)
#print axioms proved
end Go.Proofs.YtoehobaigfmnpaaDoor.lawLockPower

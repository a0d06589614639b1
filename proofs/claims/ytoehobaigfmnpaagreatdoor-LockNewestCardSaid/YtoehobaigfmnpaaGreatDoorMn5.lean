/- The statement of innkeeperlaw37.LockNewest: for every input the call returns true, and each argument reads afterwards as it read before. No condition. -/
import Derived.Test.YtoehobaigfmnpaaGreatDoorRows
import Derived.Test.YtoehobaigfmnpaaGreatDoorCards
import Derived.Test.YtoehobaigfmnpaaGreatDoorTie
import Derived.Test.YtoehobaigfmnpaaGreatDoorChecked
import Derived.WalkKit
import Derived.WalkSpells
import Derived.WalkLawsBesides
import Derived.Deep.QuietTactic
import Derived.BigQuiet
import Derived.BigGuardPart
import Derived.Lib.Hide
import Derived.Below
import Derived.IntWalk
import Derived.Laws.Rows
import Derived.OneCell
import Derived.Outline
import Derived.Deep.RegionHeld3
import Derived.Deep.RegionWith
import Derived.Maps.AppendAt
import Derived.Deep.AppendLies
import Derived.Laws.OwnMore
import Derived.OwnWalk
import Derived.Laws.BitsAllLaws
import Derived.Lib.ItoaNum
import Derived.Lib.ItoaLen
import Derived.Shelf.Small.Wraps
import Derived.Shelf.Strconv.Itoa0
import Derived.Shelf.Strconv.Itoa1
import Derived.Shelf.LaysM
import Derived.Shelf.Strconv.Itoa2
import Derived.Shelf.Strconv.Itoa3
import Derived.Shelf.Slices.Turned
import Derived.Shelf.Slices.Reverse
import Derived.Ground.Names2Prog
import Derived.Shelf.Slices.Clone
import Derived.Shelf.Slices.SearchI
import Derived.Shelf.Slices.Cells
import Derived.Shelf.Slices.Empties
import Derived.Ground.SlgnProg
import Derived.Shelf.SlicesE.Clone
import Derived.Test.YtoehobaigfmnpaaGreatDoorProg
import Derived.Lib.AppendIntMem
import Derived.Lib.OthersKept
import Derived.ProofKit
import Derived.LaidMore
import Derived.Stop.LaidErr
import Derived.Lib.LaidTab
import Derived.SevenTiedAt
import Derived.OpenShut
import Derived.ShutString
import Derived.ChangeOld
import Derived.Carry
import Derived.Lib.SmallJoins
import Derived.Test.YtoehobaigfmnpaaGreatDoorMo1
import Derived.Test.YtoehobaigfmnpaaGreatDoorMo2
import Derived.Test.YtoehobaigfmnpaaGreatDoorMo3
import Derived.Test.YtoehobaigfmnpaaGreatDoorMo4
import Derived.Test.YtoehobaigfmnpaaGreatDoorMo5
import Derived.Test.YtoehobaigfmnpaaGreatDoorMo6
import Derived.Test.YtoehobaigfmnpaaGreatDoorMo7
import Derived.Test.YtoehobaigfmnpaaGreatDoorMo8
import Derived.Test.YtoehobaigfmnpaaGreatDoorMo9
import Derived.Test.YtoehobaigfmnpaaGreatDoorMo10
import Derived.Test.YtoehobaigfmnpaaGreatDoorMo11
import Derived.Test.YtoehobaigfmnpaaGreatDoorMo12
import Derived.Test.YtoehobaigfmnpaaGreatDoorMo13
import Derived.Test.YtoehobaigfmnpaaGreatDoorMo14
import Derived.Test.YtoehobaigfmnpaaGreatDoorMo15
import Derived.Test.YtoehobaigfmnpaaGreatDoorMo16
import Derived.Test.YtoehobaigfmnpaaGreatDoorMo17
import Derived.Test.YtoehobaigfmnpaaGreatDoorMo18
import Derived.Test.YtoehobaigfmnpaaGreatDoorMo19
import Derived.Test.YtoehobaigfmnpaaGreatDoorMo20
import Derived.Test.YtoehobaigfmnpaaGreatDoorMo21
import Derived.Test.YtoehobaigfmnpaaGreatDoorMo22
import Derived.Test.YtoehobaigfmnpaaGreatDoorMo23
import Derived.Test.YtoehobaigfmnpaaGreatDoorMo24
import Derived.Test.YtoehobaigfmnpaaGreatDoorMo25
import Derived.Test.YtoehobaigfmnpaaGreatDoorMo26
import Derived.Test.YtoehobaigfmnpaaGreatDoorMo27
import Derived.Test.YtoehobaigfmnpaaGreatDoorMo28
import Derived.Test.YtoehobaigfmnpaaGreatDoorMo29
import Derived.Test.YtoehobaigfmnpaaGreatDoorMo30
import Derived.Test.YtoehobaigfmnpaaGreatDoorMo31
import Derived.Test.YtoehobaigfmnpaaGreatDoorMo32
import Derived.Test.YtoehobaigfmnpaaGreatDoorMo33
import Derived.Test.YtoehobaigfmnpaaGreatDoorMo34
import Derived.Test.YtoehobaigfmnpaaGreatDoorMo35
import Derived.Test.YtoehobaigfmnpaaGreatDoorMo36
import Derived.Test.YtoehobaigfmnpaaGreatDoorMo37
import Derived.Test.YtoehobaigfmnpaaGreatDoorMo38
import Derived.Test.YtoehobaigfmnpaaGreatDoorMo39
import Derived.Test.YtoehobaigfmnpaaGreatDoorMo40
import Derived.Test.YtoehobaigfmnpaaGreatDoorMo41
import Derived.Test.YtoehobaigfmnpaaGreatDoorMo42
import Derived.Test.YtoehobaigfmnpaaGreatDoorMo43
import Derived.Test.YtoehobaigfmnpaaGreatDoorMo44
import Derived.Test.YtoehobaigfmnpaaGreatDoorMo45
import Derived.Test.YtoehobaigfmnpaaGreatDoorMo46
import Derived.Test.YtoehobaigfmnpaaGreatDoorMn1
import Derived.Test.YtoehobaigfmnpaaGreatDoorMn4
set_option linter.unusedSimpArgs false
set_option linter.unusedVariables false
set_option maxRecDepth 100000
section
namespace Go.Proofs.YtoehobaigfmnpaaGreatDoor.lawLockNewest
open Go.ChangeShapes Go.WideShapes Go.ChangeAt Go.RowKit Go.Joins
open Go.ChangeMaps (open_string shut_string)
set_option maxRecDepth 100000 in
set_option maxHeartbeats 1000000 in
theorem lifted (os : Os) (started : os.Started) (H : Type) (enc : TypeId × Value → H) :
    ReturnsInHanded {} Tryz.checked os 5 .any (fun w args => (Rows.lockNewestSpec.pre enc Tryz.prog Tryz.f5 [] false w args ∧ laidMetH Tryz.prog seatLaid w) ∧ sizedMet enc Tryz.prog Tryz.f5 (OpenSpec.ofChange Rows.lockNewestSpec) false w args)
      (Rows.lockNewestSpec.post enc Tryz.prog Tryz.f5 false true false false) := by
  refine returnsInHanded_of_change_and (C := Tryz.checked) (X := fun w _ => laidMetH Tryz.prog seatLaid w) (fun _ _ _ hh h => h.of_heap hh) own started (by kernel_rfl) Tryz.func5
    (ChangeSpec.witness_shaped (enc := enc) (C := Tryz.checked) (os := os) (X := fun w _ => laidMetH Tryz.prog seatLaid w) false (World.doorLaid Tryz.prog 24 os) #[.agg #[.int .i64 0, .int .i64 0, .int .i64 0, .int .i64 0, .int .i64 0, .slice none 0 0, .int .u64 0, .int .i64 0, .int .i64 0, .slice none 0 0, .int .u64 0, .bool false], .agg #[.int .i64 0, .int .i64 0, .int .i64 0, .int .i64 0, .int .i64 0, .int .i64 0, .int .i64 0, .int .i64 0, .int .i64 0], .agg #[.int .i64 0, .int .i64 0, .int .i64 0, .int .i64 0, .int .i64 0, .int .i64 0, .int .i64 0, .int .i64 0, .int .i64 0], .int .i64 0, .int .i64 0] 8 rfl (World.shaped_of_RefB (by kernel_rfl) (by kernel_rfl)) (by kernel_rfl) (by kernel_rfl) (by kernel_rfl) (door_met os _)) ?_
  intro W base args ds gs before hval0 hW hcnd hsz hL _
  have hTab := tab_of_laid hL
  have hval : ∀ (j : Nat) t v, Tryz.f5.params[j]? = some t → args[j]? = some v → Value.okWide Tryz.prog W .any base t v := hval0
  have hW' := hW
  obtain ⟨p, q, hA0, hV, rfl, hfz, hnd⟩ := hW
  have hA : DataW.TrodAll enc Tryz.prog W 0 (fun _ => true) true Tryz.f5.params.toList args.toList ds p := hA0
  rw [Tryz.params5] at hA hval
  obtain ⟨v0, vs0, d0, ds0, p0, q0, hargs, rfl, rfl, h0, r0⟩ := trodAll_cons hA
  obtain ⟨v1, vs1, d1, ds1, p1, q1, rfl, rfl, rfl, h1, r1⟩ := trodAll_cons r0
  obtain ⟨v2, vs2, d2, ds2, p2, q2, rfl, rfl, rfl, h2, r2⟩ := trodAll_cons r1
  obtain ⟨v3, vs3, d3, ds3, p3, q3, rfl, rfl, rfl, h3, r3⟩ := trodAll_cons r2
  obtain ⟨v4, vs4, d4, ds4, p4, q4, rfl, rfl, rfl, h4, r4⟩ := trodAll_cons r3
  obtain ⟨rfl, rfl, rfl⟩ := trodAll_nil r4
  obtain rfl : args = #[v0, v1, v2, v3, v4] := by cases args; simp_all
  obtain ⟨rfl, rfl⟩ := trodVars_none hV
  have k0 := h0
  have lt0 : ∀ x ∈ p0, x.block < W.heap.size := by obtain ⟨m, hm⟩ := k0; exact DataW.trod_lt m _ _ _ hm
  have k1 := h1
  have lt1 : ∀ x ∈ p1, x.block < W.heap.size := by obtain ⟨m, hm⟩ := k1; exact DataW.trod_lt m _ _ _ hm
  have k2 := h2
  have lt2 : ∀ x ∈ p2, x.block < W.heap.size := by obtain ⟨m, hm⟩ := k2; exact DataW.trod_lt m _ _ _ hm
  have k3 := h3
  have lt3 : ∀ x ∈ p3, x.block < W.heap.size := by obtain ⟨m, hm⟩ := k3; exact DataW.trod_lt m _ _ _ hm
  have k4 := h4
  have lt4 : ∀ x ∈ p4, x.block < W.heap.size := by obtain ⟨m, hm⟩ := k4; exact DataW.trod_lt m _ _ _ hm
  obtain ⟨l0, A0, n0, c0, B0, m0, q0, rfl, sx0, sy0, lf0⟩ := open_lock (hval 0 28 v0 rfl rfl) h0
  obtain ⟨x1, rfl, f1⟩ := open_card (hval 1 32 v1 rfl rfl) h1
  obtain ⟨x2, rfl, f2⟩ := open_card (hval 2 32 v2 rfl rfl) h2
  obtain ⟨a3, rfl, rfl, rfl, w3⟩ := open_int Tryz.underlying3 (hval 3 3 v3 rfl rfl) h3
  obtain ⟨a4, rfl, rfl, rfl, w4⟩ := open_int Tryz.underlying3 (hval 4 3 v4 rfl rfl) h4
  clear hA0 hval0
  refine (lockNewest_walk l0 A0 n0 c0 B0 m0 q0 x1 x2 a3 a4 W sx0 sy0 lf0 f1 f2 w3 w4 hTab).mono fun e W' ⟨he, bel⟩ => ?_
  subst he
  exact ⟨_, rfl, _, _, _, [], _, [], hW', trodAll_mk1 (shut_bool Tryz.underlying4 _), (trodAll_cons_mk (Below.trod laidOut (by kernel_rfl) (of_decide_eq_true (by kernel_rfl)) k0 bel lt0) (trodAll_cons_mk (Below.trod laidOut (by kernel_rfl) (of_decide_eq_true (by kernel_rfl)) k1 bel lt1) (trodAll_cons_mk (Below.trod laidOut (by kernel_rfl) (of_decide_eq_true (by kernel_rfl)) k2 bel lt2) (trodAll_cons_mk (Below.trod laidOut (by kernel_rfl) (of_decide_eq_true (by kernel_rfl)) k3 bel lt3) (trodAll_cons_mk (Below.trod laidOut (by kernel_rfl) (of_decide_eq_true (by kernel_rfl)) k4 bel lt4) trodAll_mk0))))), rfl, bel.frame _, fun h => by cases h⟩
theorem over : Rows.lockNewestRow.holds Tryz.pinned (OpenSpec.ofChange Rows.lockNewestSpec) :=
  OpenClaim.holds_of_wide 5 Tryz.f5 rfl rfl rfl rfl rfl rfl rfl ⟨rfl, rfl, rfl, rfl, rfl⟩ rfl rfl rfl rfl rfl (by kernel_rfl) Tryz.func5 (by kernel_rfl)
    (of_decide_eq_true (by kernel_rfl)) (by unfold Func.isWrapper; first | (rw [if_pos (by decide +kernel)]; kernel_rfl) | (rw [if_neg (by decide +kernel)]; exact ⟨rfl, rfl⟩))
    (fun os started H enc _ => lifted os started H enc)
theorem proved : Rows.LockNewestCardSaid :=
  Claim7.holds_tied_plain_at .later [] [.data, .data, .data] true (true, "9f01bf424aa441459315edada7087f75946b04a115eae5d0163d7107f84f6617") false
    over (fun _ h => by cases h) (by kernel_rfl) (fun _ h => by cases h) lockNewest_row_tie rfl ⟨rfl, rfl⟩ (by kernel_rfl) rfl
    (fun f fn hf hfn => by
      obtain rfl : f = 5 := Option.some.inj ((show Tryz.prog.funcNamed "innkeeper/innkeeperlaw37.LockNewest" = some 5 by kernel_rfl).symm.trans hf) |>.symm
      obtain rfl : fn = Tryz.f5 := (Option.some.inj (Tryz.func5.symm.trans hfn)).symm
      exact ⟨by kernel_rfl, fun j t ht => by
        rw [Tryz.params5] at ht
        have hm : t ∈ [28, 32, 32, 3, 3] := by simpa using Array.mem_of_getElem? ht
        have hall : ([28, 32, 32, 3, 3].all fun u => !Tryz.prog.wantsStandIn u) = true := by kernel_rfl
        exact (show Tryz.prog.wantsStandIn t = false by simpa using List.all_eq_true.1 hall t hm)⟩)
    (by kernel_rfl)
#print axioms proved
end Go.Proofs.YtoehobaigfmnpaaGreatDoor.lawLockNewest
end

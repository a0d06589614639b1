/- The statement of innkeeperlaw39.JournalMatchesReference: for every input the call returns true, and each argument reads afterwards as it read before. No condition. -/
import Derived.Test.YtmbmejclnagffaaDoorRows
import Derived.Test.YtmbmejclnagffaaDoorCards
import Derived.Test.YtmbmejclnagffaaDoorTie
import Derived.Shelf.Strconv.Itoa0
import Derived.Shelf.Strconv.Itoa1
import Derived.Shelf.LaysM
import Derived.Shelf.Strconv.Itoa2
import Derived.Shelf.Strconv.Itoa3
import Derived.Ground.Names2Prog
import Derived.Shelf.Slices.Clone
import Derived.Test.YtmbmejclnagffaaDoorProg
import Derived.Lib.AppendIntMem
import Derived.Lib.OthersKept
import Derived.ProofKit
import Derived.LaidMore
import Derived.Stop.LaidErr
import Derived.Lib.LaidTab
import Derived.SevenTiedAt
import Derived.OpenShut
import Derived.ShutString
import Derived.ChangeOld
import Derived.Below
import Derived.Carry
import Derived.Lib.SmallJoins
import Derived.Test.YtmbmejclnagffaaDoorM1
import Derived.Test.YtmbmejclnagffaaDoorM2
import Derived.Test.YtmbmejclnagffaaDoorM3
import Derived.Test.YtmbmejclnagffaaDoorM4
import Derived.Test.YtmbmejclnagffaaDoorM5
import Derived.Test.YtmbmejclnagffaaDoorM6
import Derived.Test.YtmbmejclnagffaaDoorM7
import Derived.Test.YtmbmejclnagffaaDoorM8
import Derived.Test.YtmbmejclnagffaaDoorM9
import Derived.Test.YtmbmejclnagffaaDoorM10
import Derived.Test.YtmbmejclnagffaaDoorM11
import Derived.Test.YtmbmejclnagffaaDoorM12
import Derived.Test.YtmbmejclnagffaaDoorM13
import Derived.Test.YtmbmejclnagffaaDoorM14
import Derived.Test.YtmbmejclnagffaaDoorM15
import Derived.Test.YtmbmejclnagffaaDoorM16
import Derived.Test.YtmbmejclnagffaaDoorM17
import Derived.Test.YtmbmejclnagffaaDoorM18
import Derived.Test.YtmbmejclnagffaaDoorM19
import Derived.Test.YtmbmejclnagffaaDoorM20
import Derived.Test.YtmbmejclnagffaaDoorM21
import Derived.Test.YtmbmejclnagffaaDoorM22
import Derived.Test.YtmbmejclnagffaaDoorM23
import Derived.Test.YtmbmejclnagffaaDoorM24
import Derived.Test.YtmbmejclnagffaaDoorM25
import Derived.Test.YtmbmejclnagffaaDoorM26
import Derived.Test.YtmbmejclnagffaaDoorM27
import Derived.Test.YtmbmejclnagffaaDoorM28
import Derived.Test.YtmbmejclnagffaaDoorM29
import Derived.Test.YtmbmejclnagffaaDoorM30
import Derived.Test.YtmbmejclnagffaaDoorM31
import Derived.Test.YtmbmejclnagffaaDoorM32
import Derived.Test.YtmbmejclnagffaaDoorM33
import Derived.Test.YtmbmejclnagffaaDoorM34
import Derived.Test.YtmbmejclnagffaaDoorM35
import Derived.Test.YtmbmejclnagffaaDoorM36
import Derived.Test.YtmbmejclnagffaaDoorM37
import Derived.Test.YtmbmejclnagffaaDoorM38
import Derived.Test.YtmbmejclnagffaaDoorM39
import Derived.Test.YtmbmejclnagffaaDoorM40
import Derived.Test.YtmbmejclnagffaaDoorM41
import Derived.Test.YtmbmejclnagffaaDoorM42
import Derived.Test.YtmbmejclnagffaaDoorM43
import Derived.Test.YtmbmejclnagffaaDoorM44
import Derived.Test.YtmbmejclnagffaaDoorM45
import Derived.Test.YtmbmejclnagffaaDoorM46
import Derived.Test.YtmbmejclnagffaaDoorM47
import Derived.Test.YtmbmejclnagffaaDoorM48
import Derived.Test.YtmbmejclnagffaaDoorR1
import Derived.Test.YtmbmejclnagffaaDoorR4
set_option linter.unusedSimpArgs false
set_option linter.unusedVariables false
set_option maxRecDepth 100000
section
namespace Go.Proofs.YtmbmejclnagffaaDoor.lawJournalMatchesReference
open Go.ChangeShapes Go.WideShapes Go.ChangeAt Go.RowKit Go.Joins
open Go.ChangeMaps (open_string shut_string)
set_option maxRecDepth 100000 in
set_option maxHeartbeats 1000000 in
theorem lifted (os : Os) (started : os.Started) (H : Type) (enc : TypeId × Value → H) :
    ReturnsInHanded {} Tryd.checked os 6 .any (fun w args => (Rows.journalMatchesReferenceSpec.pre enc Tryd.prog Tryd.f6 [] false w args ∧ laidMetH Tryd.prog seatLaid w) ∧ sizedMet enc Tryd.prog Tryd.f6 (OpenSpec.ofChange Rows.journalMatchesReferenceSpec) false w args)
      (Rows.journalMatchesReferenceSpec.post enc Tryd.prog Tryd.f6 false true false false) := by
  refine returnsInHanded_of_change_and (C := Tryd.checked) (X := fun w _ => laidMetH Tryd.prog seatLaid w) (fun _ _ _ hh h => h.of_heap hh) own started (by kernel_rfl) Tryd.func6
    (ChangeSpec.witness_shaped (enc := enc) (C := Tryd.checked) (os := os) (X := fun w _ => laidMetH Tryd.prog seatLaid w) false (World.doorLaid Tryd.prog 29 os) #[.agg #[.slice none 0 0, .int .i64 0, .int .i64 0, .int .u64 0, .int .i64 0, .int .i64 0], .agg #[.slice none 0 0, .int .i64 0, .int .i64 0, .int .u64 0, .int .i64 0, .int .i64 0], .int .i64 0, .int .i64 0, .int .i64 0, .slice none 0 0, .int .i64 0, .int .i64 0, .int .i64 0, .agg #[.int .i64 0, .int .i64 0, .int .i64 0, .int .i64 0, .slice none 0 0]] 8 rfl (World.shaped_of_RefB (by kernel_rfl) (by kernel_rfl)) (by kernel_rfl) (by kernel_rfl) (by kernel_rfl) (door_met os _)) ?_
  intro W base args ds gs before hval0 hW hcnd hsz hL _
  have hTab := jtab_of_laid hL
  have hval : ∀ (j : Nat) t v, Tryd.f6.params[j]? = some t → args[j]? = some v → Value.okWide Tryd.prog W .any base t v := hval0
  have hW' := hW
  obtain ⟨p, q, hA0, hV, rfl, hfz, hnd⟩ := hW
  have hA : DataW.TrodAll enc Tryd.prog W 0 (fun _ => true) true Tryd.f6.params.toList args.toList ds p := hA0
  rw [Tryd.params6] at hA hval
  obtain ⟨v0, vs0, d0, ds0, p0, q0, hargs, rfl, rfl, h0, r0⟩ := trodAll_cons hA
  obtain ⟨v1, vs1, d1, ds1, p1, q1, rfl, rfl, rfl, h1, r1⟩ := trodAll_cons r0
  obtain ⟨v2, vs2, d2, ds2, p2, q2, rfl, rfl, rfl, h2, r2⟩ := trodAll_cons r1
  obtain ⟨v3, vs3, d3, ds3, p3, q3, rfl, rfl, rfl, h3, r3⟩ := trodAll_cons r2
  obtain ⟨v4, vs4, d4, ds4, p4, q4, rfl, rfl, rfl, h4, r4⟩ := trodAll_cons r3
  obtain ⟨v5, vs5, d5, ds5, p5, q5, rfl, rfl, rfl, h5, r5⟩ := trodAll_cons r4
  obtain ⟨v6, vs6, d6, ds6, p6, q6, rfl, rfl, rfl, h6, r6⟩ := trodAll_cons r5
  obtain ⟨v7, vs7, d7, ds7, p7, q7, rfl, rfl, rfl, h7, r7⟩ := trodAll_cons r6
  obtain ⟨v8, vs8, d8, ds8, p8, q8, rfl, rfl, rfl, h8, r8⟩ := trodAll_cons r7
  obtain ⟨v9, vs9, d9, ds9, p9, q9, rfl, rfl, rfl, h9, r9⟩ := trodAll_cons r8
  obtain ⟨rfl, rfl, rfl⟩ := trodAll_nil r9
  obtain rfl : args = #[v0, v1, v2, v3, v4, v5, v6, v7, v8, v9] := by cases args; simp_all
  obtain ⟨rfl, rfl⟩ := trodVars_none hV
  have k0 := h0
  have lt0 : ∀ x ∈ p0, x.block < W.heap.size := by obtain ⟨m, hm⟩ := k0; exact DataW.trod_lt m _ _ _ hm
  have k1 := h1
  have lt1 : ∀ x ∈ p1, x.block < W.heap.size := by obtain ⟨m, hm⟩ := k1; exact DataW.trod_lt m _ _ _ hm
  have k2 := h2
  have lt2 : ∀ x ∈ p2, x.block < W.heap.size := by obtain ⟨m, hm⟩ := k2; exact DataW.trod_lt m _ _ _ hm
  have k3 := h3
  have lt3 : ∀ x ∈ p3, x.block < W.heap.size := by obtain ⟨m, hm⟩ := k3; exact DataW.trod_lt m _ _ _ hm
  have k4 := h4
  have lt4 : ∀ x ∈ p4, x.block < W.heap.size := by obtain ⟨m, hm⟩ := k4; exact DataW.trod_lt m _ _ _ hm
  have k5 := h5
  have lt5 : ∀ x ∈ p5, x.block < W.heap.size := by obtain ⟨m, hm⟩ := k5; exact DataW.trod_lt m _ _ _ hm
  have k6 := h6
  have lt6 : ∀ x ∈ p6, x.block < W.heap.size := by obtain ⟨m, hm⟩ := k6; exact DataW.trod_lt m _ _ _ hm
  have k7 := h7
  have lt7 : ∀ x ∈ p7, x.block < W.heap.size := by obtain ⟨m, hm⟩ := k7; exact DataW.trod_lt m _ _ _ hm
  have k8 := h8
  have lt8 : ∀ x ∈ p8, x.block < W.heap.size := by obtain ⟨m, hm⟩ := k8; exact DataW.trod_lt m _ _ _ hm
  have k9 := h9
  have lt9 : ∀ x ∈ p9, x.block < W.heap.size := by obtain ⟨m, hm⟩ := k9; exact DataW.trod_lt m _ _ _ hm
  obtain ⟨A0, c0, l0, j0, rfl, f0⟩ := open_journal (hval 0 35 v0 rfl rfl) h0
  obtain ⟨A1, c1, l1, j1, rfl, f1⟩ := open_journal (hval 1 35 v1 rfl rfl) h1
  obtain ⟨a2, rfl, rfl, rfl, w2⟩ := open_int Tryd.underlying3 (hval 2 3 v2 rfl rfl) h2
  obtain ⟨a3, rfl, rfl, rfl, w3⟩ := open_int Tryd.underlying3 (hval 3 3 v3 rfl rfl) h3
  obtain ⟨a4, rfl, rfl, rfl, w4⟩ := open_int Tryd.underlying3 (hval 4 3 v4 rfl rfl) h4
  obtain ⟨A5, c5, l5, rfl, i5, cap5, max5, wf5⟩ := open_ints_at Tryd.underlying45 Tryd.underlying3 (by kernel_rfl) (hval 5 45 v5 rfl rfl) h5
  obtain ⟨a6, rfl, rfl, rfl, w6⟩ := open_int Tryd.underlying3 (hval 6 3 v6 rfl rfl) h6
  obtain ⟨a7, rfl, rfl, rfl, w7⟩ := open_int Tryd.underlying3 (hval 7 3 v7 rfl rfl) h7
  obtain ⟨a8, rfl, rfl, rfl, w8⟩ := open_int Tryd.underlying3 (hval 8 3 v8 rfl rfl) h8
  obtain ⟨x9, rfl, f9⟩ := open_msg (hval 9 47 v9 rfl rfl) h9
  clear hA0 hval0
  refine (journalMatchesReference_walk A0 c0 l0 j0 A1 c1 l1 j1 a2 a3 a4 A5 c5 l5 a6 a7 a8 x9 W f0 f1 w2 w3 w4 i5 cap5 max5 wf5 w6 w7 w8 f9 hTab).mono fun e W' ⟨he, bel⟩ => ?_
  subst he
  exact ⟨_, rfl, _, _, _, [], _, [], hW', trodAll_mk1 (shut_bool Tryd.underlying4 _), (trodAll_cons_mk (Below.trod laidOut (by kernel_rfl) (of_decide_eq_true (by kernel_rfl)) k0 bel lt0) (trodAll_cons_mk (Below.trod laidOut (by kernel_rfl) (of_decide_eq_true (by kernel_rfl)) k1 bel lt1) (trodAll_cons_mk (Below.trod laidOut (by kernel_rfl) (of_decide_eq_true (by kernel_rfl)) k2 bel lt2) (trodAll_cons_mk (Below.trod laidOut (by kernel_rfl) (of_decide_eq_true (by kernel_rfl)) k3 bel lt3) (trodAll_cons_mk (Below.trod laidOut (by kernel_rfl) (of_decide_eq_true (by kernel_rfl)) k4 bel lt4) (trodAll_cons_mk (Below.trod laidOut (by kernel_rfl) (of_decide_eq_true (by kernel_rfl)) k5 bel lt5) (trodAll_cons_mk (Below.trod laidOut (by kernel_rfl) (of_decide_eq_true (by kernel_rfl)) k6 bel lt6) (trodAll_cons_mk (Below.trod laidOut (by kernel_rfl) (of_decide_eq_true (by kernel_rfl)) k7 bel lt7) (trodAll_cons_mk (Below.trod laidOut (by kernel_rfl) (of_decide_eq_true (by kernel_rfl)) k8 bel lt8) (trodAll_cons_mk (Below.trod laidOut (by kernel_rfl) (of_decide_eq_true (by kernel_rfl)) k9 bel lt9) trodAll_mk0)))))))))), rfl, bel.frame _, fun h => by cases h⟩
theorem over : Rows.journalMatchesReferenceRow.holds Tryd.pinned (OpenSpec.ofChange Rows.journalMatchesReferenceSpec) :=
  OpenClaim.holds_of_wide 6 Tryd.f6 rfl rfl rfl rfl rfl rfl rfl ⟨rfl, rfl, rfl, rfl, rfl⟩ rfl rfl rfl rfl rfl (by kernel_rfl) Tryd.func6 (by kernel_rfl)
    (of_decide_eq_true (by kernel_rfl)) (by unfold Func.isWrapper; first | (rw [if_pos (by decide +kernel)]; kernel_rfl) | (rw [if_neg (by decide +kernel)]; exact ⟨rfl, rfl⟩))
    (fun os started H enc _ => lifted os started H enc)
theorem proved : Rows.JournalMatchesReferenceCardSaid :=
  Claim7.holds_tied_plain_at .later [] [.data, .data, .data, .data] true (true, "005a0fbeab5bede412302a522e0d3a1374d4613b907e5fc34ec7171dede597a1") false
    over (fun _ h => by cases h) (by kernel_rfl) (fun _ h => by cases h) journalMatchesReference_row_tie rfl ⟨rfl, rfl⟩ (by kernel_rfl) rfl
    (fun f fn hf hfn => by
      obtain rfl : f = 6 := Option.some.inj ((show Tryd.prog.funcNamed "innkeeper/innkeeperlaw39.JournalMatchesReference" = some 6 by kernel_rfl).symm.trans hf) |>.symm
      obtain rfl : fn = Tryd.f6 := (Option.some.inj (Tryd.func6.symm.trans hfn)).symm
      exact ⟨by kernel_rfl, fun j t ht => by
        rw [Tryd.params6] at ht
        have hm : t ∈ [35, 35, 3, 3, 3, 45, 3, 3, 3, 47] := by simpa using Array.mem_of_getElem? ht
        have hall : ([35, 35, 3, 3, 3, 45, 3, 3, 3, 47].all fun u => !Tryd.prog.wantsStandIn u) = true := by kernel_rfl
        exact (show Tryd.prog.wantsStandIn t = false by simpa using List.all_eq_true.1 hall t hm)⟩)
    (by kernel_rfl)
#print axioms proved
end Go.Proofs.YtmbmejclnagffaaDoor.lawJournalMatchesReference
end

/- The plain laws of lock.Show. -/
import Derived.Test.YtoehobaigfmnpaaGreatDoorChecked
import Derived.WalkKit
import Derived.WalkSpells
import Derived.WalkLawsBesides
import Derived.Deep.QuietTactic
import Derived.BigQuiet
import Derived.BigGuardPart
import Derived.Lib.Hide
import Derived.Below
import Derived.IntWalk
import Derived.Laws.Rows
import Derived.OneCell
import Derived.Outline
import Derived.Deep.RegionHeld3
import Derived.Deep.RegionWith
import Derived.Maps.AppendAt
import Derived.Deep.AppendLies
import Derived.Laws.OwnMore
import Derived.OwnWalk
import Derived.Laws.BitsAllLaws
import Derived.Lib.ItoaNum
import Derived.Lib.ItoaLen
import Derived.Shelf.Small.Wraps
import Derived.Shelf.Strconv.Itoa0
import Derived.Shelf.Strconv.Itoa1
import Derived.Shelf.LaysM
import Derived.Shelf.Strconv.Itoa2
import Derived.Shelf.Strconv.Itoa3
import Derived.Shelf.Slices.Turned
import Derived.Shelf.Slices.Reverse
import Derived.Ground.Names2Prog
import Derived.Shelf.Slices.Clone
import Derived.Shelf.Slices.SearchI
import Derived.Shelf.Slices.Cells
import Derived.Shelf.Slices.Empties
import Derived.Ground.SlgnProg
import Derived.Shelf.SlicesE.Clone
import Derived.Test.YtoehobaigfmnpaaGreatDoorProg
import Derived.Lib.AppendIntMem
import Derived.Lib.OthersKept
import Derived.Lib.AppendStr
import Derived.Laws.BytesArg
import Derived.Lib.Strings
import Derived.Lib.SlBytesConst
import Derived.Deep.Cut
import Derived.ProofKit
import Derived.OpenShut
import Derived.ChangeOld
import Derived.Deep.Matrix
import Derived.DataShut
import Derived.SizedLaws
import Derived.Lib.SmallJoins
import Derived.StillTailTactics
import Derived.Deep.Slices
import Derived.Maps.OwnSet
import Derived.Maps.OwnOps
import Derived.Deep.CutRange
import Derived.Shelf.Spec.SlicesInsert
import Derived.Shelf.Spec.SlicesInsertGrow
import Derived.Test.YtoehobaigfmnpaaGreatDoorMo1
import Derived.Test.YtoehobaigfmnpaaGreatDoorMo2
import Derived.Test.YtoehobaigfmnpaaGreatDoorMo3
import Derived.Test.YtoehobaigfmnpaaGreatDoorMo4
import Derived.Test.YtoehobaigfmnpaaGreatDoorMo5
import Derived.Test.YtoehobaigfmnpaaGreatDoorMo6
import Derived.Test.YtoehobaigfmnpaaGreatDoorMo7
import Derived.Test.YtoehobaigfmnpaaGreatDoorMo8
import Derived.Test.YtoehobaigfmnpaaGreatDoorMo9
import Derived.Test.YtoehobaigfmnpaaGreatDoorMo10
import Derived.Test.YtoehobaigfmnpaaGreatDoorMo11
import Derived.Test.YtoehobaigfmnpaaGreatDoorMo12
import Derived.Test.YtoehobaigfmnpaaGreatDoorMo13
import Derived.Test.YtoehobaigfmnpaaGreatDoorMo14
import Derived.Test.YtoehobaigfmnpaaGreatDoorMo15
import Derived.Test.YtoehobaigfmnpaaGreatDoorMo16
import Derived.Test.YtoehobaigfmnpaaGreatDoorMo17
import Derived.Test.YtoehobaigfmnpaaGreatDoorMo18
import Derived.Test.YtoehobaigfmnpaaGreatDoorMo19
import Derived.Test.YtoehobaigfmnpaaGreatDoorMo20
import Derived.Test.YtoehobaigfmnpaaGreatDoorMo21
import Derived.Test.YtoehobaigfmnpaaGreatDoorMo22
import Derived.Test.YtoehobaigfmnpaaGreatDoorMo23
import Derived.Test.YtoehobaigfmnpaaGreatDoorMo24
import Derived.Test.YtoehobaigfmnpaaGreatDoorMo25
import Derived.Test.YtoehobaigfmnpaaGreatDoorMo26
import Derived.Test.YtoehobaigfmnpaaGreatDoorMo27
import Derived.Test.YtoehobaigfmnpaaGreatDoorMo28
import Derived.Test.YtoehobaigfmnpaaGreatDoorMo29
import Derived.Test.YtoehobaigfmnpaaGreatDoorMo30
import Derived.Test.YtoehobaigfmnpaaGreatDoorMo31
import Derived.Test.YtoehobaigfmnpaaGreatDoorMo32
import Derived.Test.YtoehobaigfmnpaaGreatDoorMo33
import Derived.Test.YtoehobaigfmnpaaGreatDoorMo34
import Derived.Test.YtoehobaigfmnpaaGreatDoorMo35
import Derived.Test.YtoehobaigfmnpaaGreatDoorMo36
import Derived.Test.YtoehobaigfmnpaaGreatDoorMo37
import Derived.Test.YtoehobaigfmnpaaGreatDoorMo38
import Derived.Test.YtoehobaigfmnpaaGreatDoorMo39
import Derived.Test.YtoehobaigfmnpaaGreatDoorMo40
import Derived.Test.YtoehobaigfmnpaaGreatDoorMo41
import Derived.Test.YtoehobaigfmnpaaGreatDoorMo42
import Derived.Test.YtoehobaigfmnpaaGreatDoorMo43
import Derived.Test.YtoehobaigfmnpaaGreatDoorMo44
import Derived.Test.YtoehobaigfmnpaaGreatDoorMo45
import Derived.Test.YtoehobaigfmnpaaGreatDoorMo46
set_option linter.unusedSimpArgs false
set_option linter.unusedVariables false
set_option maxRecDepth 100000
namespace Go.Proofs.YtoehobaigfmnpaaGreatDoor
open Go.RowKit
theorem apz : (∀ (a : Act) (t : Tmp) (v : Value), a.put (some t) v = { a with tmps := a.tmps.setIfInBounds t v }) ∧ (∀ (a : Act) (v : Value), a.put none v = a) ∧ (∀ (l : List Value) (i : Nat) (v : Value), l.toArray.setIfInBounds i v = (l.set i v).toArray) ∧ (∀ (x v : Value) (l : List Value), (x :: l).set 0 v = v :: l) ∧ (∀ (x v : Value) (l : List Value) (n : Nat), (x :: l).set (n + 1) v = x :: l.set n v) := ⟨fun _ _ _ => rfl, fun _ _ => rfl, fun l i v => by simp, fun _ _ _ => rfl, fun _ _ _ _ => rfl⟩
theorem SlotArg.sfit {w : World} {A : Option Addr} {n cap : Nat} {x : Slt} (h : SlotArg w A n cap x) (hn : n ≤ 40) : SFit x := ⟨h.s, h.c, h.fit, h.u, by have := h.len; omega⟩
theorem shW_of {l : Lk} {c : Crd} (h1 : aftC l c = (keepS l).c) (h2 : aftL l c = (keepS l).l) : shW l c = false := by simp [shW, h1, h2]
theorem kind3_ne {c : Crd} (h : cvB c = true) (h3 : c.k = 3) : c.l ≠ c.i := by
  obtain ⟨_, hk⟩ := cvB_iff.1 h
  rcases hk with hk | hk | hk
  · omega
  · omega
  · exact hk.2.2.2.2
/-- the card that was accepted is accepted again, and changes nothing any more -/
theorem again {l : Lk} {c : Crd} {t a : Int} (h : shE l c t a = 0) (ha : 2 ≤ a) {r : Lk} (hd : r.d = l.d) (hk : r.k = l.k) (hr : r.r = l.r) (hu : r.up = true) (hv : lvB r = true) (hs : (keepS r).c = aftC l c ∧ (keepS r).l = aftL l c) :
    shE r c t 3 = 0 ∧ shW r c = false := by
  obtain ⟨⟨h1, h2, h3, h4⟩, h6, h7, h9, hw⟩ := sh_ok h
  obtain ⟨a1, a2, a3, a4⟩ := acc_iff.1 h9
  have eC : aftC r c = (keepS r).c := by
    unfold aftC
    split
    · rename_i hk1
      rw [hs.1, aftC, if_pos hk1]; omega
    · rfl
  have eL : aftL r c = (keepS r).l := by
    unfold aftL
    split
    · rename_i hk3
      have : (keepS r).l.contains c.l = true := by
        rw [List.contains_eq_mem, decide_eq_true_eq, hs.2, aftL, if_pos hk3]
        exact mem_revL.2 (.inl rfl)
      rw [revL, if_pos this]
    · rfl
  have hW := shW_of eC eL
  refine ⟨sh_zero ⟨hv, h2, h3, by omega, by omega⟩ hu (by rw [hk]; exact h7) ?_ (by rw [shWE, if_neg (by simp [hW])]), hW⟩
  rw [acc_iff, hd, hr, hs.1, hs.2]
  refine ⟨a1, a2, ?_, fun hk1 => ?_⟩
  · unfold aftL
    split
    · rename_i hk3
      intro hm
      rcases mem_revL.1 hm with e | e
      · exact kind3_ne h2 hk3 e.symm
      · exact a3 e
    · exact a3
  · have := a4 hk1
    rw [aftC, if_pos hk1]; omega
/-- what LockNewest says, in plain words -/
theorem newest_law {l : Lk} {c : Crd} {t : Int} (h : shE l c t 3 = 0) (hk : c.k = 1) :
    shO l c t 3 = true ∧ shE (shR l c t 3) c t 3 = 0 ∧ shO (shR l c t 3) c t 3 = true ∧ shR (shR l c t 3) c t 3 = shR l c t 3 ∧ ¬ (keepS (shR l c t 3)).c < c.n ∧
    ∀ (d : Crd) (u : Int), d.k = 1 → d.n < c.n → shE (shR l c t 3) d u 3 ≠ 0 ∧ shO (shR l c t 3) d u 3 = false := by
  have hL := left_of h
  have h3 : decide ((3 : Int) = 3) = true := rfl
  have hk3 : decide (c.k = 3) = false := decide_eq_false (by omega)
  obtain ⟨e, eW⟩ := again (r := shR l c t 3) h (by omega) hL.d hL.k hL.r (by rw [hL.up, h3]) hL.v (hL.new (by omega))
  have hc : (keepS (shR l c t 3)).c = max (keepS l).c c.n := by rw [(hL.new (by omega)).1, aftC, if_pos hk]
  refine ⟨?_, e, ?_, ?_, by omega, fun d u hd hn => ?_⟩
  · rw [shO, if_pos h, hk3]; rfl
  · rw [shO, if_pos e, hk3]; rfl
  · have hu := hL.up
    generalize shR l c t 3 = M at *
    rw [shR, if_pos e, eW]
    obtain ⟨md, mk, mr, mx, my, mu⟩ := M
    rw [h3] at hu ⊢
    have hu : mu = true := hu
    rw [hu]; rfl
  · have hne : shE (shR l c t 3) d u 3 ≠ 0 := fun h0 => by
      obtain ⟨_, _, _, h9, _⟩ := sh_ok h0
      have := (acc_iff.1 h9).2.2.2 hd
      omega
    exact ⟨hne, by rw [shO, if_neg hne]⟩
end Go.Proofs.YtoehobaigfmnpaaGreatDoor

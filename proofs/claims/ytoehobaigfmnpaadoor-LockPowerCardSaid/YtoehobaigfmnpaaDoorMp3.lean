/- Two new blocks; a map of the integers of a list. -/
import Derived.Test.YtoehobaigfmnpaaDoorChecked
import Derived.WalkKit
import Derived.WalkSpells
import Derived.WalkLawsBesides
import Derived.Deep.QuietTactic
import Derived.BigQuiet
import Derived.BigGuardPart
import Derived.Lib.Hide
import Derived.Below
import Derived.IntWalk
import Derived.Laws.Rows
import Derived.OneCell
import Derived.Outline
import Derived.Deep.RegionHeld3
import Derived.Deep.RegionWith
import Derived.Maps.AppendAt
import Derived.Deep.AppendLies
import Derived.Laws.OwnMore
import Derived.OwnWalk
import Derived.Laws.BitsAllLaws
import Derived.Lib.ItoaNum
import Derived.Lib.ItoaLen
import Derived.Shelf.Small.Wraps
import Derived.Shelf.Strconv.Itoa0
import Derived.Shelf.Strconv.Itoa1
import Derived.Shelf.LaysM
import Derived.Shelf.Strconv.Itoa2
import Derived.Shelf.Strconv.Itoa3
import Derived.Shelf.Slices.Turned
import Derived.Shelf.Slices.Reverse
import Derived.Ground.Names2Prog
import Derived.Shelf.Slices.Clone
import Derived.Shelf.Slices.SearchI
import Derived.Shelf.Slices.Cells
import Derived.Shelf.Slices.Empties
import Derived.Test.YtoehobaigfmnpaaDoorProg
import Derived.Lib.AppendIntMem
import Derived.Lib.OthersKept
import Derived.Lib.AppendStr
import Derived.Lib.SlBytesConst
import Derived.StillTailTactics
import Derived.Deep.Cut
import Derived.Lib.SmallJoins
import Derived.Deep.Slices
import Derived.Maps.OwnSet
import Derived.Maps.OwnOps
import Derived.Deep.CutRange
import Derived.Shelf.Spec.SlicesInsert
import Derived.Shelf.Spec.SlicesInsertGrow
import Derived.Test.YtoehobaigfmnpaaDoorMr1
import Derived.Test.YtoehobaigfmnpaaDoorMr2
import Derived.Test.YtoehobaigfmnpaaDoorMr3
import Derived.Test.YtoehobaigfmnpaaDoorMr4
import Derived.Test.YtoehobaigfmnpaaDoorMr5
import Derived.Test.YtoehobaigfmnpaaDoorMr6
import Derived.Test.YtoehobaigfmnpaaDoorMr7
import Derived.Test.YtoehobaigfmnpaaDoorMr8
import Derived.Test.YtoehobaigfmnpaaDoorMr9
import Derived.Test.YtoehobaigfmnpaaDoorMr10
import Derived.Test.YtoehobaigfmnpaaDoorMr11
import Derived.Test.YtoehobaigfmnpaaDoorMr12
import Derived.Test.YtoehobaigfmnpaaDoorMr13
import Derived.Test.YtoehobaigfmnpaaDoorMr14
import Derived.Test.YtoehobaigfmnpaaDoorMr15
import Derived.Test.YtoehobaigfmnpaaDoorMr16
import Derived.Test.YtoehobaigfmnpaaDoorMr17
import Derived.Test.YtoehobaigfmnpaaDoorMr18
import Derived.Test.YtoehobaigfmnpaaDoorMr19
import Derived.Test.YtoehobaigfmnpaaDoorMr20
import Derived.Test.YtoehobaigfmnpaaDoorMr21
import Derived.Test.YtoehobaigfmnpaaDoorMr22
import Derived.Test.YtoehobaigfmnpaaDoorMr23
import Derived.Test.YtoehobaigfmnpaaDoorMr24
import Derived.Test.YtoehobaigfmnpaaDoorMr25
import Derived.Test.YtoehobaigfmnpaaDoorMr26
import Derived.Test.YtoehobaigfmnpaaDoorMr27
import Derived.Test.YtoehobaigfmnpaaDoorMr28
import Derived.Test.YtoehobaigfmnpaaDoorMr29
import Derived.Test.YtoehobaigfmnpaaDoorMr30
import Derived.Test.YtoehobaigfmnpaaDoorMr31
import Derived.Test.YtoehobaigfmnpaaDoorMr32
import Derived.Test.YtoehobaigfmnpaaDoorMr33
import Derived.Test.YtoehobaigfmnpaaDoorMr34
import Derived.Test.YtoehobaigfmnpaaDoorMr35
import Derived.Test.YtoehobaigfmnpaaDoorMr36
import Derived.Test.YtoehobaigfmnpaaDoorMr37
import Derived.Test.YtoehobaigfmnpaaDoorMr38
import Derived.Test.YtoehobaigfmnpaaDoorMr39
import Derived.Test.YtoehobaigfmnpaaDoorMr40
import Derived.Test.YtoehobaigfmnpaaDoorMr41
import Derived.Test.YtoehobaigfmnpaaDoorMr42
import Derived.Test.YtoehobaigfmnpaaDoorMr43
import Derived.Test.YtoehobaigfmnpaaDoorMr44
import Derived.Test.YtoehobaigfmnpaaDoorMr45
import Derived.Test.YtoehobaigfmnpaaDoorMr46
import Derived.Test.YtoehobaigfmnpaaDoorMr47
import Derived.Test.YtoehobaigfmnpaaDoorMr48
import Derived.Test.YtoehobaigfmnpaaDoorMp1
import Derived.Test.YtoehobaigfmnpaaDoorMp2
section
namespace Go.Proofs.YtoehobaigfmnpaaDoor
set_option linter.unusedSimpArgs false
set_option linter.unusedVariables false
set_option maxRecDepth 100000
open Go.RowKit
theorem rsays_any (x : Slt) (c : Int) (A : Option Addr) (n p : Nat) (hx : x.l.length = n) (B : Option Addr) (m q : Nat) (l : List Int) (hy : l.length = m) (w : World) (hn : n ≤ 100000) (hm : m ≤ 100000) (hl : IntsAt w A .i64 x.l) (hk : IntsAt w B .i64 l) :
    Calls Tryd.prog 32 #[.agg #[.int .i64 x.s, .int .i64 x.c, .slice A n p, .int .u64 x.u], .int .i64 c, .slice B m q] w fun e w' => e = .returned (.bool (saysS x c l)) ∧ Below w.heap.size w w' := by
  have bw : Below w.heap.size w (w.alloc (.cells #[.int .i64 x.s, .int .i64 x.c, .slice A n p, .int .u64 x.u] 52)) := (Below.refl _ _).alloc (Nat.le_refl _) _
  have q1 := rsame_at ⟨0, x.c, x.l, 0⟩ ⟨0, c, l, 0⟩ A n p hx B m q hy _ hn hm (hl.below bw) (hk.below bw)
  change Calls _ _ _ _ (fun e w' => e = .returned (.bool (saysS x c l)) ∧ _) at q1
  dsimp only at q1
  generalize saysS x c l = R at *
  have ⟨H_hx, H_hy, H_hl, H_hk, H_bw, H_q1⟩ := hid6 hx hy hl hk bw q1; clear hx hy hl hk bw q1
  go_enter Tryd.func32, Tryd.ntmps32
  go_wp2_with fail
  refine (H_q1.out).mono ?_; rintro e w2 ⟨rfl, hbw2⟩
  have hsw2 := hbw2.size; (try simp only [World.size_alloc, World.heap_drewN, World.size_setCell, heap_drew] at hsw2)
  have gw2 : Below w.heap.size w w2 := belt
  have kw2x0x0 := keepc hbw2 (b := w.heap.size) (o := 0) omg (by go_simp; with_reducible rfl)
  have zw2x0 : w.heap.size < w2.heap.size := by omega
  have H_hbw2 := Lib.hid hbw2; clear hbw2
  go_wp2_with fail
  go_ret
  exact ⟨rfl, gw2⟩

end Go.Proofs.YtoehobaigfmnpaaDoor
end
section
namespace Go.Proofs.YtoehobaigfmnpaaDoor
set_option linter.unusedSimpArgs false
set_option linter.unusedVariables false
set_option maxRecDepth 100000
open Go.RowKit
theorem shE_at {l : Lk} {c : Crd} {t a b : Int} (ha : ¬ a < 0 ∧ ¬ 3 < a) (hb : ¬ b < 0 ∧ ¬ 3 < b) : shE l c t a = shE l c t b := by
  unfold shE shWE
  rw [wrE_at ha hb]
  simp only [ha, hb, not_false_eq_true, and_self]
/-- what LockPower says, in plain words -/
theorem power_law {l : Lk} {c : Crd} {t a : Int} (h : shE l c t 3 = 0) (ha : 0 ≤ a) (ha2 : a ≤ 2) :
    (shR l c t a).up = false ∧ lvB (shR l c t a) = true ∧ shE (shR l c t a) c t 3 = 51 ∧ shO l c t a = false ∧ pwE (shR l c t a) = 0 ∧
    (a < 2 → keepS (shR l c t a) = keepS l) ∧
    shE (pwR (shR l c t a) true) c t 3 = 0 ∧ shO (pwR (shR l c t a) true) c t 3 = shO l c t 3 ∧ lvB (shR (pwR (shR l c t a) true) c t 3) = true ∧
    saysS (keepS (shR l c t 3)) (keepS (shR (pwR (shR l c t a) true) c t 3)).c (keepS (shR (pwR (shR l c t a) true) c t 3)).l = true := by
  have hA : shE l c t a = 0 := by rw [shE_at (b := 3) (by omega) (by omega)]; exact h
  have hL := left_of hA
  have hW := left_of h
  obtain ⟨⟨h1, h2, h3, h4⟩, h6, h7, h9, hw⟩ := sh_ok h
  have da : decide (a = 3) = false := decide_eq_false (by omega)
  have hu : (shR l c t a).up = false := by rw [hL.up, da]
  rw [(pw_of hL.v true).1, (pw_of hL.v true).2]
  have key : shE { shR l c t a with up := true } c t 3 = 0 ∧ (keepS (shR { shR l c t a with up := true } c t 3)).c = aftC l c ∧ (keepS (shR { shR l c t a with up := true } c t 3)).l = aftL l c := by
    by_cases h2a : a < 2
    · obtain ⟨e, eC, eL⟩ := later (r := { shR l c t a with up := true }) hA hL.d hL.k hL.r rfl hL.v (hL.old h2a)
      have := (left_of e).new (by omega)
      rw [eC, eL] at this
      exact ⟨e, this⟩
    · obtain ⟨e, eW⟩ := again (r := { shR l c t a with up := true }) hA (by omega) hL.d hL.k hL.r rfl hL.v (hL.new (by omega))
      have h5 := (left_of e).new (by omega)
      have h8 := shW_no eW
      have h10 := hL.new (by omega)
      refine ⟨e, ?_, ?_⟩
      · rw [h5.1, h8.1]; exact h10.1
      · rw [h5.2, h8.2]; exact h10.2
  refine ⟨hu, hL.v, ?_, ?_, rfl, hL.old, key.1, ?_, (left_of key.1).v, ?_⟩
  · rw [shE, if_pos ⟨hL.v, h2, h3, by omega, by omega⟩, if_neg (by simp [hu])]
  · rw [shO, if_pos hA, da, Bool.false_and]
  · rw [shO, shO, if_pos key.1, if_pos h]
  · rw [saysS_iff, key.2.1, key.2.2]
    exact hW.new (by omega)
end Go.Proofs.YtoehobaigfmnpaaDoor
end
section
namespace Go.Proofs.YtoehobaigfmnpaaDoor
set_option linter.unusedSimpArgs false
set_option linter.unusedVariables false
set_option maxRecDepth 100000
open Go.RowKit Go.Maps
/-- two new slots -/
def Two (w wx : World) (g h : Nat) (u v : Array Value) : Prop := (w.heap.size ≤ g ∧ w.heap.size ≤ h ∧ g ≠ h) ∧ Blk wx g u ∧ Blk wx h v ∧ Below w.heap.size w wx
section
variable {w w2 : World} {U V : Array Value} {t t' : TypeId} {g h : Nat} {z0 z1 z2 z3 y0 y1 y2 y3 a0 a1 a2 a3 b0 b1 b2 b3 : Value}
theorem two_nn (b : Below w.heap.size w w2) : Two w ((w2.alloc (.cells U t)).alloc (.cells V t')) w2.heap.size (w2.heap.size + 1) U V :=
  ⟨⟨b.size, by have := b.size; omega, by omega⟩, (blk_new rfl).alloc _, blk_new (by simp), (b.alloc b.size _).alloc (by have := b.size; simp; omega) _⟩
theorem two_nn' (b : Below w.heap.size w w2) : Two w ((w2.alloc (.cells V t)).alloc (.cells U t')) (w2.heap.size + 1) w2.heap.size U V :=
  ⟨⟨by have := b.size; omega, b.size, by omega⟩, blk_new (by simp), (blk_new rfl).alloc _, (b.alloc b.size _).alloc (by have := b.size; simp; omega) _⟩
theorem two_on (zg : Blk w2 g #[z0, z1, z2, z3]) (hg : w.heap.size ≤ g) (b : Below w.heap.size w w2) : Two w (((((w2.setCell ⟨g, 0, none⟩ a0).setCell ⟨g, 1, none⟩ a1).setCell ⟨g, 2, none⟩ a2).setCell ⟨g, 3, none⟩ a3).alloc (.cells V t)) g w2.heap.size #[a0, a1, a2, a3] V := by
  have k : Blk (putL w2 g 0 [a0, a1, a2, a3]) g #[a0, a1, a2, a3] := putL_blk zg [a0, a1, a2, a3] (by simp)
  have lt := (zg 0 _ rfl).lt
  exact ⟨⟨hg, b.size, by omega⟩, k.alloc _, blk_new (by simp [World.size_setCell]), (putL_below hg [a0, a1, a2, a3] w2 0 b).alloc (by rw [putL_size]; exact b.size) _⟩
theorem two_no (zh : Blk w2 h #[z0, z1, z2, z3]) (hh : w.heap.size ≤ h) (b : Below w.heap.size w w2) : Two w (((((w2.setCell ⟨h, 0, none⟩ b0).setCell ⟨h, 1, none⟩ b1).setCell ⟨h, 2, none⟩ b2).setCell ⟨h, 3, none⟩ b3).alloc (.cells U t)) w2.heap.size h U #[b0, b1, b2, b3] := by
  obtain ⟨⟨h1, h2, h3⟩, h4, h5, h6⟩ := two_on (V := U) (t := t) (a0 := b0) (a1 := b1) (a2 := b2) (a3 := b3) zh hh b
  exact ⟨⟨h2, h1, fun e => h3 e.symm⟩, h5, h4, h6⟩
theorem two_oo (zg : Blk w2 g #[z0, z1, z2, z3]) (zh : Blk w2 h #[y0, y1, y2, y3]) (hg : w.heap.size ≤ g) (hh : w.heap.size ≤ h) (ne : g ≠ h) (b : Below w.heap.size w w2) : Two w ((((((((w2.setCell ⟨g, 0, none⟩ a0).setCell ⟨g, 1, none⟩ a1).setCell ⟨g, 2, none⟩ a2).setCell ⟨g, 3, none⟩ a3).setCell ⟨h, 0, none⟩ b0).setCell ⟨h, 1, none⟩ b1).setCell ⟨h, 2, none⟩ b2).setCell ⟨h, 3, none⟩ b3) g h #[a0, a1, a2, a3] #[b0, b1, b2, b3] := by
  have k : Blk (putL w2 g 0 [a0, a1, a2, a3]) g #[a0, a1, a2, a3] := putL_blk zg [a0, a1, a2, a3] (by simp)
  have j : Blk (putL w2 g 0 [a0, a1, a2, a3]) h #[y0, y1, y2, y3] := putL_far zh ne 0 _
  have k2 : Blk (putL (putL w2 g 0 [a0, a1, a2, a3]) h 0 [b0, b1, b2, b3]) h #[b0, b1, b2, b3] := putL_blk j [b0, b1, b2, b3] (by simp)
  have j2 : Blk (putL (putL w2 g 0 [a0, a1, a2, a3]) h 0 [b0, b1, b2, b3]) g #[a0, a1, a2, a3] := putL_far k (Ne.symm ne) 0 _
  exact ⟨⟨hg, hh, ne⟩, j2, k2, putL_below (b := h) hh [b0, b1, b2, b3] (putL w2 g 0 [a0, a1, a2, a3]) 0 (putL_below (b := g) hg [a0, a1, a2, a3] w2 0 b)⟩
end
end Go.Proofs.YtoehobaigfmnpaaDoor
end

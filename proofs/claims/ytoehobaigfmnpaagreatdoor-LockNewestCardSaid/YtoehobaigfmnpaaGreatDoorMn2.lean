/- Opening arguments: cards, signatures, slices of cards. -/
import Derived.Test.YtoehobaigfmnpaaGreatDoorChecked
import Derived.WalkKit
import Derived.WalkSpells
import Derived.WalkLawsBesides
import Derived.Deep.QuietTactic
import Derived.BigQuiet
import Derived.BigGuardPart
import Derived.Lib.Hide
import Derived.Below
import Derived.IntWalk
import Derived.Laws.Rows
import Derived.OneCell
import Derived.Outline
import Derived.Deep.RegionHeld3
import Derived.Deep.RegionWith
import Derived.Maps.AppendAt
import Derived.Deep.AppendLies
import Derived.Laws.OwnMore
import Derived.OwnWalk
import Derived.Laws.BitsAllLaws
import Derived.Lib.ItoaNum
import Derived.Lib.ItoaLen
import Derived.Shelf.Small.Wraps
import Derived.Shelf.Strconv.Itoa0
import Derived.Shelf.Strconv.Itoa1
import Derived.Shelf.LaysM
import Derived.Shelf.Strconv.Itoa2
import Derived.Shelf.Strconv.Itoa3
import Derived.Shelf.Slices.Turned
import Derived.Shelf.Slices.Reverse
import Derived.Ground.Names2Prog
import Derived.Shelf.Slices.Clone
import Derived.Shelf.Slices.SearchI
import Derived.Shelf.Slices.Cells
import Derived.Shelf.Slices.Empties
import Derived.Ground.SlgnProg
import Derived.Shelf.SlicesE.Clone
import Derived.Test.YtoehobaigfmnpaaGreatDoorProg
import Derived.Lib.AppendIntMem
import Derived.Lib.OthersKept
import Derived.Lib.AppendStr
import Derived.Laws.BytesArg
import Derived.Lib.Strings
import Derived.Lib.SlBytesConst
import Derived.Maps.OwnSet
import Derived.Maps.OwnOps
import Derived.ProofKit
import Derived.OpenShut
import Derived.ChangeOld
import Derived.Deep.Matrix
import Derived.DataShut
import Derived.SizedLaws
import Derived.Deep.Slices
import Derived.Deep.CutRange
import Derived.DeepKeys
import Derived.Lib.SmallJoins
import Derived.Test.YtoehobaigfmnpaaGreatDoorMo1
import Derived.Test.YtoehobaigfmnpaaGreatDoorMo2
import Derived.Test.YtoehobaigfmnpaaGreatDoorMo3
import Derived.Test.YtoehobaigfmnpaaGreatDoorMo4
import Derived.Test.YtoehobaigfmnpaaGreatDoorMo5
import Derived.Test.YtoehobaigfmnpaaGreatDoorMo6
import Derived.Test.YtoehobaigfmnpaaGreatDoorMo7
import Derived.Test.YtoehobaigfmnpaaGreatDoorMo8
import Derived.Test.YtoehobaigfmnpaaGreatDoorMo9
import Derived.Test.YtoehobaigfmnpaaGreatDoorMo10
import Derived.Test.YtoehobaigfmnpaaGreatDoorMo11
import Derived.Test.YtoehobaigfmnpaaGreatDoorMo12
import Derived.Test.YtoehobaigfmnpaaGreatDoorMo13
import Derived.Test.YtoehobaigfmnpaaGreatDoorMo14
import Derived.Test.YtoehobaigfmnpaaGreatDoorMo15
import Derived.Test.YtoehobaigfmnpaaGreatDoorMo16
import Derived.Test.YtoehobaigfmnpaaGreatDoorMo17
import Derived.Test.YtoehobaigfmnpaaGreatDoorMo18
import Derived.Test.YtoehobaigfmnpaaGreatDoorMo19
import Derived.Test.YtoehobaigfmnpaaGreatDoorMo20
import Derived.Test.YtoehobaigfmnpaaGreatDoorMo21
import Derived.Test.YtoehobaigfmnpaaGreatDoorMo22
import Derived.Test.YtoehobaigfmnpaaGreatDoorMo23
import Derived.Test.YtoehobaigfmnpaaGreatDoorMo24
import Derived.Test.YtoehobaigfmnpaaGreatDoorMo25
import Derived.Test.YtoehobaigfmnpaaGreatDoorMo26
import Derived.Test.YtoehobaigfmnpaaGreatDoorMo27
import Derived.Test.YtoehobaigfmnpaaGreatDoorMo28
import Derived.Test.YtoehobaigfmnpaaGreatDoorMo29
import Derived.Test.YtoehobaigfmnpaaGreatDoorMo30
import Derived.Test.YtoehobaigfmnpaaGreatDoorMo31
import Derived.Test.YtoehobaigfmnpaaGreatDoorMo32
import Derived.Test.YtoehobaigfmnpaaGreatDoorMo33
import Derived.Test.YtoehobaigfmnpaaGreatDoorMo34
import Derived.Test.YtoehobaigfmnpaaGreatDoorMo35
import Derived.Test.YtoehobaigfmnpaaGreatDoorMo36
import Derived.Test.YtoehobaigfmnpaaGreatDoorMo37
import Derived.Test.YtoehobaigfmnpaaGreatDoorMo38
import Derived.Test.YtoehobaigfmnpaaGreatDoorMo39
import Derived.Test.YtoehobaigfmnpaaGreatDoorMo40
import Derived.Test.YtoehobaigfmnpaaGreatDoorMo41
import Derived.Test.YtoehobaigfmnpaaGreatDoorMo42
import Derived.Test.YtoehobaigfmnpaaGreatDoorMo43
import Derived.Test.YtoehobaigfmnpaaGreatDoorMo44
import Derived.Test.YtoehobaigfmnpaaGreatDoorMo45
import Derived.Test.YtoehobaigfmnpaaGreatDoorMo46
import Derived.Test.YtoehobaigfmnpaaGreatDoorMn1
set_option linter.unusedSimpArgs false
set_option linter.unusedVariables false
set_option maxRecDepth 100000
namespace Go.Proofs.YtoehobaigfmnpaaGreatDoor
open Go.RowKit
section
open Go.RowKit Go.ChangeShapes Go.WideShapes Go.ChangeAt
theorem read_card {H : Type} {enc : TypeId × Value → H} {W : World} {held : Bool} (fuel : Nat) (cs : List Value) (x : DataW H × List MemPlace) (hl : cs.length = 9) (h : DataW.trod enc Tryz.prog W 0 (fun _ => true) held fuel 32 cs = some x) : ∃ z, CdAt W cs z := by
  obtain ⟨xs, n, _, _, _, hlen, hg⟩ := DataW.trod_struct Tryz.underlying32 h
  have hx : xs.length = 8 := hlen
  match xs, hx, cs, hl with
  | [y0, y1, y2, y3, y4, y5, y6, y7], _, [c0, c1, c2, c3, c4, c5, c6, c7, c8], _ =>
    have e1 : Tryz.prog.cellsOf 3 = 1 := by kernel_rfl
    have e2 : Tryz.prog.cellsOf 30 = 2 := by kernel_rfl
    have g0 := hg 0 _ rfl
    have g1 := hg 1 _ rfl
    have g2 := hg 2 _ rfl
    have g3 := hg 3 _ rfl
    have g4 := hg 4 _ rfl
    have g5 := hg 5 _ rfl
    have g6 := hg 6 _ rfl
    have g7 := hg 7 _ rfl
    simp [e1, e2] at g0 g1 g2 g3 g4 g5 g6 g7
    obtain ⟨a0, rfl, w0⟩ := read_int Tryz.underlying3 g0
    obtain ⟨a1, rfl, w1⟩ := read_int Tryz.underlying3 g1
    obtain ⟨a2, rfl, w2⟩ := read_int Tryz.underlying3 g2
    obtain ⟨a3, rfl, w3⟩ := read_int Tryz.underlying3 g3
    obtain ⟨a4, rfl, w4⟩ := read_int Tryz.underlying3 g4
    obtain ⟨a5, rfl, w5⟩ := read_int Tryz.underlying3 g5
    obtain ⟨a6, rfl, w6⟩ := read_int Tryz.underlying3 g6
    obtain ⟨zs, n2, _, _, _, hlen2, hg2⟩ := DataW.trod_struct Tryz.underlying30 g7
    have hz : zs.length = 2 := hlen2
    match zs, hz with
    | [z0, z1], _ =>
      have k0 := hg2 0 _ rfl
      have k1 := hg2 1 _ rfl
      simp [e1] at k0 k1
      obtain ⟨a7, rfl, w7⟩ := read_int Tryz.underlying3 k0
      obtain ⟨a8, rfl, w8⟩ := read_int Tryz.underlying3 k1
      exact ⟨⟨a0, a1, a2, a3, a4, a5, a6, a7, a8⟩, rfl, ⟨wf_i64 w0, wf_i64 w1, wf_i64 w2, wf_i64 w3, wf_i64 w4, wf_i64 w5, wf_i64 w6, wf_i64 w7, wf_i64 w8⟩⟩
theorem open_card {H : Type} {enc : TypeId × Value → H} {W : World} {base : Nat} {held : Bool} {v : Value} {d : DataW H} {p : List MemPlace} (hv : Value.okWide Tryz.prog W .any base 32 v) (h : DataW.Trod enc Tryz.prog W 0 (fun _ => true) held 32 v d p) :
    ∃ c : Crd, v = .agg c.cells.toArray ∧ CFit c := by
  obtain ⟨cs, rfl, hsz⟩ := okWide_struct Tryz.underlying32 hv
  have e : Tryz.prog.cellsOf 32 = 9 := by kernel_rfl
  obtain ⟨fuel, hf⟩ := h
  obtain ⟨z, hz, hzf⟩ := read_card fuel cs.toList _ (by rw [Array.length_toList, hsz, e]) hf
  exact ⟨z, by rw [← hz], hzf⟩
end
end Go.Proofs.YtoehobaigfmnpaaGreatDoor

/- Opening arguments: locks. -/
import Derived.Test.YtoehobaigfmnpaaGreatDoorChecked
import Derived.WalkKit
import Derived.WalkSpells
import Derived.WalkLawsBesides
import Derived.Deep.QuietTactic
import Derived.BigQuiet
import Derived.BigGuardPart
import Derived.Lib.Hide
import Derived.Below
import Derived.IntWalk
import Derived.Laws.Rows
import Derived.OneCell
import Derived.Outline
import Derived.Deep.RegionHeld3
import Derived.Deep.RegionWith
import Derived.Maps.AppendAt
import Derived.Deep.AppendLies
import Derived.Laws.OwnMore
import Derived.OwnWalk
import Derived.Laws.BitsAllLaws
import Derived.Lib.ItoaNum
import Derived.Lib.ItoaLen
import Derived.Shelf.Small.Wraps
import Derived.Shelf.Strconv.Itoa0
import Derived.Shelf.Strconv.Itoa1
import Derived.Shelf.LaysM
import Derived.Shelf.Strconv.Itoa2
import Derived.Shelf.Strconv.Itoa3
import Derived.Shelf.Slices.Turned
import Derived.Shelf.Slices.Reverse
import Derived.Ground.Names2Prog
import Derived.Shelf.Slices.Clone
import Derived.Shelf.Slices.SearchI
import Derived.Shelf.Slices.Cells
import Derived.Shelf.Slices.Empties
import Derived.Ground.SlgnProg
import Derived.Shelf.SlicesE.Clone
import Derived.Test.YtoehobaigfmnpaaGreatDoorProg
import Derived.Lib.AppendIntMem
import Derived.Lib.OthersKept
import Derived.Lib.AppendStr
import Derived.Laws.BytesArg
import Derived.Lib.Strings
import Derived.Lib.SlBytesConst
import Derived.Deep.Cut
import Derived.ProofKit
import Derived.OpenShut
import Derived.ChangeOld
import Derived.Deep.Matrix
import Derived.DataShut
import Derived.SizedLaws
import Derived.Lib.SmallJoins
import Derived.StillTailTactics
import Derived.Test.YtoehobaigfmnpaaGreatDoorMo1
import Derived.Test.YtoehobaigfmnpaaGreatDoorMo2
import Derived.Test.YtoehobaigfmnpaaGreatDoorMo3
import Derived.Test.YtoehobaigfmnpaaGreatDoorMo4
import Derived.Test.YtoehobaigfmnpaaGreatDoorMo5
import Derived.Test.YtoehobaigfmnpaaGreatDoorMo6
import Derived.Test.YtoehobaigfmnpaaGreatDoorMo7
import Derived.Test.YtoehobaigfmnpaaGreatDoorMo8
import Derived.Test.YtoehobaigfmnpaaGreatDoorMo9
import Derived.Test.YtoehobaigfmnpaaGreatDoorMo10
import Derived.Test.YtoehobaigfmnpaaGreatDoorMo11
import Derived.Test.YtoehobaigfmnpaaGreatDoorMo12
import Derived.Test.YtoehobaigfmnpaaGreatDoorMo13
import Derived.Test.YtoehobaigfmnpaaGreatDoorMo14
import Derived.Test.YtoehobaigfmnpaaGreatDoorMo15
import Derived.Test.YtoehobaigfmnpaaGreatDoorMo16
import Derived.Test.YtoehobaigfmnpaaGreatDoorMo17
import Derived.Test.YtoehobaigfmnpaaGreatDoorMo18
import Derived.Test.YtoehobaigfmnpaaGreatDoorMo19
import Derived.Test.YtoehobaigfmnpaaGreatDoorMo20
import Derived.Test.YtoehobaigfmnpaaGreatDoorMo21
import Derived.Test.YtoehobaigfmnpaaGreatDoorMo22
import Derived.Test.YtoehobaigfmnpaaGreatDoorMo23
import Derived.Test.YtoehobaigfmnpaaGreatDoorMo24
import Derived.Test.YtoehobaigfmnpaaGreatDoorMo25
import Derived.Test.YtoehobaigfmnpaaGreatDoorMo26
import Derived.Test.YtoehobaigfmnpaaGreatDoorMo27
import Derived.Test.YtoehobaigfmnpaaGreatDoorMo28
import Derived.Test.YtoehobaigfmnpaaGreatDoorMo29
import Derived.Test.YtoehobaigfmnpaaGreatDoorMo30
import Derived.Test.YtoehobaigfmnpaaGreatDoorMo31
import Derived.Test.YtoehobaigfmnpaaGreatDoorMo32
import Derived.Test.YtoehobaigfmnpaaGreatDoorMo33
import Derived.Test.YtoehobaigfmnpaaGreatDoorMo34
import Derived.Test.YtoehobaigfmnpaaGreatDoorMo35
import Derived.Test.YtoehobaigfmnpaaGreatDoorMo36
import Derived.Test.YtoehobaigfmnpaaGreatDoorMo37
import Derived.Test.YtoehobaigfmnpaaGreatDoorMo38
import Derived.Test.YtoehobaigfmnpaaGreatDoorMo39
import Derived.Test.YtoehobaigfmnpaaGreatDoorMo40
import Derived.Test.YtoehobaigfmnpaaGreatDoorMo41
import Derived.Test.YtoehobaigfmnpaaGreatDoorMo42
import Derived.Test.YtoehobaigfmnpaaGreatDoorMo43
import Derived.Test.YtoehobaigfmnpaaGreatDoorMo44
import Derived.Test.YtoehobaigfmnpaaGreatDoorMo45
import Derived.Test.YtoehobaigfmnpaaGreatDoorMo46
import Derived.Test.YtoehobaigfmnpaaGreatDoorMn1
import Derived.Test.YtoehobaigfmnpaaGreatDoorMn2
set_option linter.unusedSimpArgs false
set_option linter.unusedVariables false
set_option maxRecDepth 100000
namespace Go.Proofs.YtoehobaigfmnpaaGreatDoor
open Go.RowKit
section
open Go.RowKit Go.ChangeShapes Go.WideShapes Go.ChangeAt
theorem read_slots {H : Type} {enc : TypeId × Value → H} {W : World} {held : Bool} {fuel : Nat} {c0 c1 c2 c3 c4 c5 c6 c7 : Value} {x : DataW H × List MemPlace} (h : DataW.trod enc Tryz.prog W 0 (fun _ => true) held fuel 26 [c0, c1, c2, c3, c4, c5, c6, c7] = some x) :
    ∃ (x y : Slt) (A : Option Addr) (n cap : Nat) (B : Option Addr) (m q : Nat), [c0, c1, c2, c3, c4, c5, c6, c7] = [.int .i64 x.s, .int .i64 x.c, .slice A n cap, .int .u64 x.u, .int .i64 y.s, .int .i64 y.c, .slice B m q, .int .u64 y.u] ∧ SlotArg W A n cap x ∧ SlotArg W B m q y := by
  have e4 : Tryz.prog.cellsOf 25 = 4 := by kernel_rfl
  obtain ⟨xs, m, _, _, _, hlen, hg⟩ := DataW.trod_array Tryz.underlying26 h
  match xs, hlen with
  | [y0, y1], _ =>
    have g0 := hg 0 (by omega)
    have g1 := hg 1 (by omega)
    simp [e4] at g0 g1
    obtain ⟨x, A, n, cap, rfl, rfl, rfl, rfl, hx⟩ := read_slot g0
    obtain ⟨y, B, m, q, rfl, rfl, rfl, rfl, hy⟩ := read_slot g1
    exact ⟨x, y, A, n, cap, B, m, q, rfl, hx, hy⟩
theorem read_lock {H : Type} {enc : TypeId × Value → H} {W : World} {held : Bool} (fuel : Nat) (cs : List Value) (x : DataW H × List MemPlace) (hl : cs.length = 12) (h : DataW.trod enc Tryz.prog W 0 (fun _ => true) held fuel 28 cs = some x) :
    ∃ (l : Lk) (A : Option Addr) (n p : Nat) (B : Option Addr) (m q : Nat), cs = l.cells A n p B m q ∧ SlotArg W A n p l.x ∧ SlotArg W B m q l.y ∧ LFit l := by
  obtain ⟨xs, n, _, _, _, hlen, hg⟩ := DataW.trod_struct Tryz.underlying28 h
  have hx : xs.length = 5 := hlen
  match xs, hx, cs, hl with
  | [y0, y1, y2, y3, y4], _, [c0, c1, c2, c3, c4, c5, c6, c7, c8, c9, c10, c11], _ =>
    have e1 : Tryz.prog.cellsOf 3 = 1 := by kernel_rfl
    have e2 : Tryz.prog.cellsOf 26 = 8 := by kernel_rfl
    have e3 : Tryz.prog.cellsOf 4 = 1 := by kernel_rfl
    have g0 := hg 0 _ rfl
    have g1 := hg 1 _ rfl
    have g2 := hg 2 _ rfl
    have g3 := hg 3 _ rfl
    have g4 := hg 4 _ rfl
    simp [e1, e2, e3] at g0 g1 g2 g3 g4
    obtain ⟨a0, rfl, w0⟩ := read_int Tryz.underlying3 g0
    obtain ⟨a1, rfl, w1⟩ := read_int Tryz.underlying3 g1
    obtain ⟨a2, rfl, w2⟩ := read_int Tryz.underlying3 g2
    obtain ⟨x, y, A, n, p, B, m, q, e, hx, hy⟩ := read_slots g3
    obtain ⟨b, hb, _⟩ := DataW.trod_bool Tryz.underlying4 g4
    simp only [List.cons.injEq, and_true] at e hb
    obtain ⟨rfl, rfl, rfl, rfl, rfl, rfl, rfl, rfl⟩ := e
    subst hb
    exact ⟨⟨a0, a1, a2, x, y, b⟩, A, n, p, B, m, q, rfl, hx, hy, ⟨wf_i64 w0, wf_i64 w1, wf_i64 w2⟩⟩
theorem open_lock {H : Type} {enc : TypeId × Value → H} {W : World} {base : Nat} {held : Bool} {v : Value} {d : DataW H} {p : List MemPlace} (hv : Value.okWide Tryz.prog W .any base 28 v) (h : DataW.Trod enc Tryz.prog W 0 (fun _ => true) held 28 v d p) :
    ∃ (l : Lk) (A : Option Addr) (n p : Nat) (B : Option Addr) (m q : Nat), v = .agg (l.cells A n p B m q).toArray ∧ SlotArg W A n p l.x ∧ SlotArg W B m q l.y ∧ LFit l := by
  obtain ⟨cs, rfl, hsz⟩ := okWide_struct Tryz.underlying28 hv
  have e : Tryz.prog.cellsOf 28 = 12 := by kernel_rfl
  obtain ⟨fuel, hf⟩ := h
  obtain ⟨l, A, n, p, B, m, q, hz, hx, hy, hl⟩ := read_lock fuel cs.toList _ (by rw [Array.length_toList, hsz, e]) hf
  exact ⟨l, A, n, p, B, m, q, by rw [← hz], hx, hy, hl⟩
end
end Go.Proofs.YtoehobaigfmnpaaGreatDoor

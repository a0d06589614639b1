/- Opening arguments: deeds (a card that is shown). -/
import Derived.Test.YtoehobaigfmnpaaDoorChecked
import Derived.WalkKit
import Derived.WalkSpells
import Derived.WalkLawsBesides
import Derived.Deep.QuietTactic
import Derived.BigQuiet
import Derived.BigGuardPart
import Derived.Lib.Hide
import Derived.Below
import Derived.IntWalk
import Derived.Laws.Rows
import Derived.OneCell
import Derived.Outline
import Derived.Deep.RegionHeld3
import Derived.Deep.RegionWith
import Derived.Maps.AppendAt
import Derived.Deep.AppendLies
import Derived.Laws.OwnMore
import Derived.OwnWalk
import Derived.Laws.BitsAllLaws
import Derived.Lib.ItoaNum
import Derived.Lib.ItoaLen
import Derived.Shelf.Small.Wraps
import Derived.Shelf.Strconv.Itoa0
import Derived.Shelf.Strconv.Itoa1
import Derived.Shelf.LaysM
import Derived.Shelf.Strconv.Itoa2
import Derived.Shelf.Strconv.Itoa3
import Derived.Shelf.Slices.Turned
import Derived.Shelf.Slices.Reverse
import Derived.Ground.Names2Prog
import Derived.Shelf.Slices.Clone
import Derived.Shelf.Slices.SearchI
import Derived.Shelf.Slices.Cells
import Derived.Shelf.Slices.Empties
import Derived.Test.YtoehobaigfmnpaaDoorProg
import Derived.Lib.AppendIntMem
import Derived.Lib.OthersKept
import Derived.Lib.AppendStr
import Derived.Laws.BytesArg
import Derived.Lib.Strings
import Derived.Lib.SlBytesConst
import Derived.Deep.Cut
import Derived.ProofKit
import Derived.OpenShut
import Derived.ChangeOld
import Derived.Deep.Matrix
import Derived.DataShut
import Derived.SizedLaws
import Derived.Lib.SmallJoins
import Derived.Deep.Slices
import Derived.Deep.CutRange
import Derived.DeepKeys
import Derived.StillTailTactics
import Derived.Test.YtoehobaigfmnpaaDoorMr1
import Derived.Test.YtoehobaigfmnpaaDoorMr2
import Derived.Test.YtoehobaigfmnpaaDoorMr3
import Derived.Test.YtoehobaigfmnpaaDoorMr4
import Derived.Test.YtoehobaigfmnpaaDoorMr5
import Derived.Test.YtoehobaigfmnpaaDoorMr6
import Derived.Test.YtoehobaigfmnpaaDoorMr7
import Derived.Test.YtoehobaigfmnpaaDoorMr8
import Derived.Test.YtoehobaigfmnpaaDoorMr9
import Derived.Test.YtoehobaigfmnpaaDoorMr10
import Derived.Test.YtoehobaigfmnpaaDoorMr11
import Derived.Test.YtoehobaigfmnpaaDoorMr12
import Derived.Test.YtoehobaigfmnpaaDoorMr13
import Derived.Test.YtoehobaigfmnpaaDoorMr14
import Derived.Test.YtoehobaigfmnpaaDoorMr15
import Derived.Test.YtoehobaigfmnpaaDoorMr16
import Derived.Test.YtoehobaigfmnpaaDoorMr17
import Derived.Test.YtoehobaigfmnpaaDoorMr18
import Derived.Test.YtoehobaigfmnpaaDoorMr19
import Derived.Test.YtoehobaigfmnpaaDoorMr20
import Derived.Test.YtoehobaigfmnpaaDoorMr21
import Derived.Test.YtoehobaigfmnpaaDoorMr22
import Derived.Test.YtoehobaigfmnpaaDoorMr23
import Derived.Test.YtoehobaigfmnpaaDoorMr24
import Derived.Test.YtoehobaigfmnpaaDoorMr25
import Derived.Test.YtoehobaigfmnpaaDoorMr26
import Derived.Test.YtoehobaigfmnpaaDoorMr27
import Derived.Test.YtoehobaigfmnpaaDoorMr28
import Derived.Test.YtoehobaigfmnpaaDoorMr29
import Derived.Test.YtoehobaigfmnpaaDoorMr30
import Derived.Test.YtoehobaigfmnpaaDoorMr31
import Derived.Test.YtoehobaigfmnpaaDoorMr32
import Derived.Test.YtoehobaigfmnpaaDoorMr33
import Derived.Test.YtoehobaigfmnpaaDoorMr34
import Derived.Test.YtoehobaigfmnpaaDoorMr35
import Derived.Test.YtoehobaigfmnpaaDoorMr36
import Derived.Test.YtoehobaigfmnpaaDoorMr37
import Derived.Test.YtoehobaigfmnpaaDoorMr38
import Derived.Test.YtoehobaigfmnpaaDoorMr39
import Derived.Test.YtoehobaigfmnpaaDoorMr40
import Derived.Test.YtoehobaigfmnpaaDoorMr41
import Derived.Test.YtoehobaigfmnpaaDoorMr42
import Derived.Test.YtoehobaigfmnpaaDoorMr43
import Derived.Test.YtoehobaigfmnpaaDoorMr44
import Derived.Test.YtoehobaigfmnpaaDoorMr45
import Derived.Test.YtoehobaigfmnpaaDoorMr46
import Derived.Test.YtoehobaigfmnpaaDoorMr47
import Derived.Test.YtoehobaigfmnpaaDoorMr48
import Derived.Test.YtoehobaigfmnpaaDoorMc1
namespace Go.Proofs.YtoehobaigfmnpaaDoor
set_option linter.unusedSimpArgs false
set_option linter.unusedVariables false
set_option maxRecDepth 100000
open Go.RowKit Go.ChangeShapes Go.WideShapes Go.ChangeAt
/-- a card that is shown, at a time, until a moment; whether the power comes back before -/
structure Ded where
  c : Crd
  t : Int
  a : Int
  b : Bool
def Ded.cells (d : Ded) : List Value := [.int .i64 d.c.i, .int .i64 d.c.k, .int .i64 d.c.d, .int .i64 d.c.n, .int .i64 d.c.f, .int .i64 d.c.u, .int .i64 d.c.l, .int .i64 d.c.e, .int .i64 d.c.s, .int .i64 d.t, .int .i64 d.a, .bool d.b]
def DedAt (_ : World) (cs : List Value) (d : Ded) : Prop := cs = d.cells ∧ CFit d.c ∧ (Lit.int .i64 d.t).wf = true ∧ (Lit.int .i64 d.a).wf = true
def Deds (w : World) (A : Option Addr) (l : List Ded) : Prop := RowsAt 12 DedAt w A l
theorem Deds.below {w w' : World} {A : Option Addr} {l : List Ded} (h : Deds w A l) (hb : Below w.heap.size w w') : Deds w' A l := RowsAt.below h (fun _ _ h => h) hb
/-- the twelve cells of one -/
theorem Deds.at {w : World} {A : Option Addr} {l : List Ded} (h : Deds w A l) {i : Nat} {d : Ded} (hi : l[i]? = some d) : ∃ b off, A = some ⟨b, off, none⟩ ∧ b < w.heap.size ∧ (CFit d.c ∧ (Lit.int .i64 d.t).wf = true ∧ (Lit.int .i64 d.a).wf = true) ∧
    w.cell? ⟨b, off + i * 12, none⟩ = some (.int .i64 d.c.i) ∧ w.cell? ⟨b, off + i * 12 + 1, none⟩ = some (.int .i64 d.c.k) ∧ w.cell? ⟨b, off + i * 12 + 2, none⟩ = some (.int .i64 d.c.d) ∧ w.cell? ⟨b, off + i * 12 + 3, none⟩ = some (.int .i64 d.c.n) ∧ w.cell? ⟨b, off + i * 12 + 4, none⟩ = some (.int .i64 d.c.f) ∧
    w.cell? ⟨b, off + i * 12 + 5, none⟩ = some (.int .i64 d.c.u) ∧ w.cell? ⟨b, off + i * 12 + 6, none⟩ = some (.int .i64 d.c.l) ∧ w.cell? ⟨b, off + i * 12 + 7, none⟩ = some (.int .i64 d.c.e) ∧ w.cell? ⟨b, off + i * 12 + 8, none⟩ = some (.int .i64 d.c.s) ∧
    w.cell? ⟨b, off + i * 12 + 9, none⟩ = some (.int .i64 d.t) ∧ w.cell? ⟨b, off + i * 12 + 10, none⟩ = some (.int .i64 d.a) ∧ w.cell? ⟨b, off + i * 12 + 11, none⟩ = some (.bool d.b) := by
  obtain ⟨b, off, cs, e, hlt, hl, hc, rfl, hf⟩ := h i d hi
  refine ⟨b, off, e, hlt, hf, ?_, ?_, ?_, ?_, ?_, ?_, ?_, ?_, ?_, ?_, ?_, ?_⟩
  · exact hc 0 (by omega)
  all_goals (rw [Nat.add_assoc])
  · exact hc 1 (by omega)
  · exact hc 2 (by omega)
  · exact hc 3 (by omega)
  · exact hc 4 (by omega)
  · exact hc 5 (by omega)
  · exact hc 6 (by omega)
  · exact hc 7 (by omega)
  · exact hc 8 (by omega)
  · exact hc 9 (by omega)
  · exact hc 10 (by omega)
  · exact hc 11 (by omega)
theorem read_ded {H : Type} {enc : TypeId × Value → H} {W : World} {held : Bool} (fuel : Nat) (cs : List Value) (x : DataW H × List MemPlace) (hl : cs.length = 12) (h : DataW.trod enc Tryd.prog W 0 (fun _ => true) held fuel 69 cs = some x) : ∃ z, DedAt W cs z := by
  obtain ⟨xs, n, _, _, _, hlen, hg⟩ := DataW.trod_struct Tryd.underlying69 h
  have hx : xs.length = 4 := hlen
  match xs, hx, cs, hl with
  | [y0, y1, y2, y3], _, [c0, c1, c2, c3, c4, c5, c6, c7, c8, c9, c10, c11], _ =>
    have e1 : Tryd.prog.cellsOf 3 = 1 := by kernel_rfl
    have e2 : Tryd.prog.cellsOf 31 = 9 := by kernel_rfl
    have e3 : Tryd.prog.cellsOf 4 = 1 := by kernel_rfl
    have g0 := hg 0 _ rfl
    have g1 := hg 1 _ rfl
    have g2 := hg 2 _ rfl
    have g3 := hg 3 _ rfl
    simp [e1, e2, e3] at g0 g1 g2 g3
    obtain ⟨z, hz, hzf⟩ := read_card n [c0, c1, c2, c3, c4, c5, c6, c7, c8] _ rfl g0
    obtain ⟨a1, rfl, w1⟩ := read_int Tryd.underlying3 g1
    obtain ⟨a2, rfl, w2⟩ := read_int Tryd.underlying3 g2
    obtain ⟨b, hb, _⟩ := DataW.trod_bool Tryd.underlying4 g3
    simp only [List.cons.injEq, and_true] at hb
    subst hb
    unfold Crd.cells at hz
    simp only [List.cons.injEq, and_true] at hz
    obtain ⟨rfl, rfl, rfl, rfl, rfl, rfl, rfl, rfl, rfl⟩ := hz
    exact ⟨⟨z, a1, a2, b⟩, rfl, hzf, w1, w2⟩
theorem open_deds {H : Type} {enc : TypeId × Value → H} {W : World} {base : Nat} {held : Bool} {v : Value} {d : DataW H} {p : List MemPlace} (hv : Value.okWide Tryd.prog W .any base 67 v) (h : DataW.Trod enc Tryd.prog W 0 (fun _ => true) held 67 v d p) :
    ∃ A c l, v = .slice A l.length c ∧ Deds W A l ∧ l.length ≤ c ∧ c ≤ maxLen := by
  obtain ⟨a0, len, cap, rfl⟩ := okWide_slice Tryd.underlying67 hv
  obtain ⟨fuel, hf⟩ := h
  exact read_rows (by decide) Tryd.underlying67 (by kernel_rfl) read_ded hf
end Go.Proofs.YtoehobaigfmnpaaDoor

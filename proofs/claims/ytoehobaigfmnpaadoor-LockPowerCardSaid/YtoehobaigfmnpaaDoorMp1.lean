/- Opening arguments: slices of integers. -/
import Derived.Test.YtoehobaigfmnpaaDoorChecked
import Derived.WalkKit
import Derived.WalkSpells
import Derived.WalkLawsBesides
import Derived.Deep.QuietTactic
import Derived.BigQuiet
import Derived.BigGuardPart
import Derived.Lib.Hide
import Derived.Below
import Derived.IntWalk
import Derived.Laws.Rows
import Derived.OneCell
import Derived.Outline
import Derived.Deep.RegionHeld3
import Derived.Deep.RegionWith
import Derived.Maps.AppendAt
import Derived.Deep.AppendLies
import Derived.Laws.OwnMore
import Derived.OwnWalk
import Derived.Laws.BytesArg
import Derived.Lib.Strings
import Derived.ProofKit
import Derived.OpenShut
import Derived.ChangeOld
import Derived.Deep.Matrix
import Derived.DataShut
import Derived.SizedLaws
import Derived.Test.YtoehobaigfmnpaaDoorMr1
import Derived.Test.YtoehobaigfmnpaaDoorMr2
import Derived.Test.YtoehobaigfmnpaaDoorMr3
import Derived.Test.YtoehobaigfmnpaaDoorMr4
import Derived.Test.YtoehobaigfmnpaaDoorMr5
import Derived.Test.YtoehobaigfmnpaaDoorMr6
import Derived.Test.YtoehobaigfmnpaaDoorMr7
import Derived.Test.YtoehobaigfmnpaaDoorMr8
import Derived.Test.YtoehobaigfmnpaaDoorMr9
import Derived.Test.YtoehobaigfmnpaaDoorMr10
import Derived.Test.YtoehobaigfmnpaaDoorMr11
import Derived.Test.YtoehobaigfmnpaaDoorMr12
import Derived.Test.YtoehobaigfmnpaaDoorMr13
import Derived.Test.YtoehobaigfmnpaaDoorMr14
import Derived.Test.YtoehobaigfmnpaaDoorMr15
import Derived.Test.YtoehobaigfmnpaaDoorMr16
import Derived.Test.YtoehobaigfmnpaaDoorMr17
import Derived.Test.YtoehobaigfmnpaaDoorMr18
import Derived.Test.YtoehobaigfmnpaaDoorMr19
import Derived.Test.YtoehobaigfmnpaaDoorMr20
import Derived.Test.YtoehobaigfmnpaaDoorMr21
import Derived.Test.YtoehobaigfmnpaaDoorMr22
import Derived.Test.YtoehobaigfmnpaaDoorMr23
import Derived.Test.YtoehobaigfmnpaaDoorMr24
import Derived.Test.YtoehobaigfmnpaaDoorMr25
import Derived.Test.YtoehobaigfmnpaaDoorMr26
import Derived.Test.YtoehobaigfmnpaaDoorMr27
import Derived.Test.YtoehobaigfmnpaaDoorMr28
import Derived.Test.YtoehobaigfmnpaaDoorMr29
import Derived.Test.YtoehobaigfmnpaaDoorMr30
import Derived.Test.YtoehobaigfmnpaaDoorMr31
import Derived.Test.YtoehobaigfmnpaaDoorMr32
import Derived.Test.YtoehobaigfmnpaaDoorMr33
import Derived.Test.YtoehobaigfmnpaaDoorMr34
import Derived.Test.YtoehobaigfmnpaaDoorMr35
import Derived.Test.YtoehobaigfmnpaaDoorMr36
import Derived.Test.YtoehobaigfmnpaaDoorMr37
import Derived.Test.YtoehobaigfmnpaaDoorMr38
import Derived.Test.YtoehobaigfmnpaaDoorMr39
import Derived.Test.YtoehobaigfmnpaaDoorMr40
import Derived.Test.YtoehobaigfmnpaaDoorMr41
import Derived.Test.YtoehobaigfmnpaaDoorMr42
import Derived.Test.YtoehobaigfmnpaaDoorMr43
import Derived.Test.YtoehobaigfmnpaaDoorMr44
import Derived.Test.YtoehobaigfmnpaaDoorMr45
import Derived.Test.YtoehobaigfmnpaaDoorMr46
import Derived.Test.YtoehobaigfmnpaaDoorMr47
import Derived.Test.YtoehobaigfmnpaaDoorMr48
section
namespace Go.Proofs.YtoehobaigfmnpaaDoor
open Go.RowKit
theorem hid2 {p0 p1 : Prop} (h0 : p0) (h1 : p1) : Hid p0 ∧ Hid p1 := ⟨h0, h1⟩
theorem hid3 {p0 p1 p2 : Prop} (h0 : p0) (h1 : p1) (h2 : p2) : Hid p0 ∧ Hid p1 ∧ Hid p2 := ⟨h0, h1, h2⟩
theorem hid4 {p0 p1 p2 p3 : Prop} (h0 : p0) (h1 : p1) (h2 : p2) (h3 : p3) : Hid p0 ∧ Hid p1 ∧ Hid p2 ∧ Hid p3 := ⟨h0, h1, h2, h3⟩
theorem hid5 {p0 p1 p2 p3 p4 : Prop} (h0 : p0) (h1 : p1) (h2 : p2) (h3 : p3) (h4 : p4) : Hid p0 ∧ Hid p1 ∧ Hid p2 ∧ Hid p3 ∧ Hid p4 := ⟨h0, h1, h2, h3, h4⟩
theorem hid6 {p0 p1 p2 p3 p4 p5 : Prop} (h0 : p0) (h1 : p1) (h2 : p2) (h3 : p3) (h4 : p4) (h5 : p5) : Hid p0 ∧ Hid p1 ∧ Hid p2 ∧ Hid p3 ∧ Hid p4 ∧ Hid p5 := ⟨h0, h1, h2, h3, h4, h5⟩
theorem hid8 {p0 p1 p2 p3 p4 p5 p6 p7 : Prop} (h0 : p0) (h1 : p1) (h2 : p2) (h3 : p3) (h4 : p4) (h5 : p5) (h6 : p6) (h7 : p7) : Hid p0 ∧ Hid p1 ∧ Hid p2 ∧ Hid p3 ∧ Hid p4 ∧ Hid p5 ∧ Hid p6 ∧ Hid p7 := ⟨h0, h1, h2, h3, h4, h5, h6, h7⟩
theorem at4_of {w : World} {b : Nat} {v0 v1 v2 v3 : Value} (h : Blk w b #[v0, v1, v2, v3]) : w.cell? ⟨b, 0, none⟩ = some v0 ∧ w.cell? ⟨b, 1, none⟩ = some v1 ∧ w.cell? ⟨b, 2, none⟩ = some v2 ∧ w.cell? ⟨b, 3, none⟩ = some v3 := ⟨(h 0 _ rfl).at, (h 1 _ rfl).at, (h 2 _ rfl).at, (h 3 _ rfl).at⟩
theorem at9_of {w : World} {b : Nat} {v0 v1 v2 v3 v4 v5 v6 v7 v8 : Value} (h : Blk w b #[v0, v1, v2, v3, v4, v5, v6, v7, v8]) : w.cell? ⟨b, 0, none⟩ = some v0 ∧ w.cell? ⟨b, 1, none⟩ = some v1 ∧ w.cell? ⟨b, 2, none⟩ = some v2 ∧ w.cell? ⟨b, 3, none⟩ = some v3 ∧ w.cell? ⟨b, 4, none⟩ = some v4 ∧ w.cell? ⟨b, 5, none⟩ = some v5 ∧ w.cell? ⟨b, 6, none⟩ = some v6 ∧ w.cell? ⟨b, 7, none⟩ = some v7 ∧ w.cell? ⟨b, 8, none⟩ = some v8 := ⟨(h 0 _ rfl).at, (h 1 _ rfl).at, (h 2 _ rfl).at, (h 3 _ rfl).at, (h 4 _ rfl).at, (h 5 _ rfl).at, (h 6 _ rfl).at, (h 7 _ rfl).at, (h 8 _ rfl).at⟩
theorem at12_of {w : World} {b : Nat} {v0 v1 v2 v3 v4 v5 v6 v7 v8 v9 v10 v11 : Value} (h : Blk w b #[v0, v1, v2, v3, v4, v5, v6, v7, v8, v9, v10, v11]) : w.cell? ⟨b, 0, none⟩ = some v0 ∧ w.cell? ⟨b, 1, none⟩ = some v1 ∧ w.cell? ⟨b, 2, none⟩ = some v2 ∧ w.cell? ⟨b, 3, none⟩ = some v3 ∧ w.cell? ⟨b, 4, none⟩ = some v4 ∧ w.cell? ⟨b, 5, none⟩ = some v5 ∧ w.cell? ⟨b, 6, none⟩ = some v6 ∧ w.cell? ⟨b, 7, none⟩ = some v7 ∧ w.cell? ⟨b, 8, none⟩ = some v8 ∧ w.cell? ⟨b, 9, none⟩ = some v9 ∧ w.cell? ⟨b, 10, none⟩ = some v10 ∧ w.cell? ⟨b, 11, none⟩ = some v11 := ⟨(h 0 _ rfl).at, (h 1 _ rfl).at, (h 2 _ rfl).at, (h 3 _ rfl).at, (h 4 _ rfl).at, (h 5 _ rfl).at, (h 6 _ rfl).at, (h 7 _ rfl).at, (h 8 _ rfl).at, (h 9 _ rfl).at, (h 10 _ rfl).at, (h 11 _ rfl).at⟩
end Go.Proofs.YtoehobaigfmnpaaDoor
end
section
namespace Go.Proofs.YtoehobaigfmnpaaDoor
set_option linter.unusedSimpArgs false
set_option linter.unusedVariables false
set_option maxRecDepth 100000
open Go.RowKit
/-- two lists of integers are equal -/
def sameB (l m : List Int) : Bool := l == m
theorem sameB_iff {l m : List Int} : sameB l m = true ↔ l = m := by simp [sameB]

theorem list_ne_at {l m : List Int} {k : Nat} (h : l.getD k 0 ≠ m.getD k 0) : sameB l m = false := by
  rw [Bool.eq_false_iff]; intro h2; rw [sameB_iff] at h2; rw [h2] at h; exact h rfl
theorem list_eq_of {l m : List Int} (hl : l.length = m.length) (h : ∀ k, k < l.length → l.getD k 0 = m.getD k 0) : sameB l m = true := by
  rw [sameB_iff]
  apply List.ext_getElem hl
  intro i h1 h2
  have := h i h1
  simpa [List.getD_eq_getElem?_getD, h1, h2] using this
end Go.Proofs.YtoehobaigfmnpaaDoor
end
section
namespace Go.Proofs.YtoehobaigfmnpaaDoor
set_option linter.unusedSimpArgs false
set_option linter.unusedVariables false
set_option maxRecDepth 100000
open Go.RowKit Go.ChangeShapes Go.WideShapes Go.ChangeAt
theorem wf_u8 {n : Int} (h : (Lit.int .u8 n).wf = true) : 0 ≤ n ∧ n ≤ 255 := by
  rw [Lit.wf_int_iff] at h; exact h
end Go.Proofs.YtoehobaigfmnpaaDoor
end

/- The walk of LockRevokes. -/
import Derived.Test.YtoehobaigfmnpaaDoorChecked
import Derived.WalkKit
import Derived.WalkSpells
import Derived.WalkLawsBesides
import Derived.Deep.QuietTactic
import Derived.BigQuiet
import Derived.BigGuardPart
import Derived.Lib.Hide
import Derived.Below
import Derived.IntWalk
import Derived.Laws.Rows
import Derived.OneCell
import Derived.Outline
import Derived.Deep.RegionHeld3
import Derived.Deep.RegionWith
import Derived.Maps.AppendAt
import Derived.Deep.AppendLies
import Derived.Laws.OwnMore
import Derived.OwnWalk
import Derived.Maps.OwnSet
import Derived.Maps.OwnOps
import Derived.Laws.BitsAllLaws
import Derived.Lib.ItoaNum
import Derived.Lib.ItoaLen
import Derived.Shelf.Small.Wraps
import Derived.Shelf.Strconv.Itoa0
import Derived.Shelf.Strconv.Itoa1
import Derived.Shelf.LaysM
import Derived.Shelf.Strconv.Itoa2
import Derived.Shelf.Strconv.Itoa3
import Derived.Shelf.Slices.Turned
import Derived.Shelf.Slices.Reverse
import Derived.Ground.Names2Prog
import Derived.Shelf.Slices.Clone
import Derived.Shelf.Slices.SearchI
import Derived.Shelf.Slices.Cells
import Derived.Shelf.Slices.Empties
import Derived.Test.YtoehobaigfmnpaaDoorProg
import Derived.Lib.AppendIntMem
import Derived.Lib.OthersKept
import Derived.Lib.AppendStr
import Derived.Laws.BytesArg
import Derived.Lib.Strings
import Derived.Lib.SlBytesConst
import Derived.StillTailTactics
import Derived.ProofKit
import Derived.OpenShut
import Derived.ChangeOld
import Derived.Deep.Matrix
import Derived.DataShut
import Derived.SizedLaws
import Derived.Deep.Cut
import Derived.Lib.SmallJoins
import Derived.Deep.Slices
import Derived.Deep.CutRange
import Derived.Shelf.Spec.SlicesInsert
import Derived.Shelf.Spec.SlicesInsertGrow
import Derived.DeepKeys
import Derived.Test.YtoehobaigfmnpaaDoorMr1
import Derived.Test.YtoehobaigfmnpaaDoorMr2
import Derived.Test.YtoehobaigfmnpaaDoorMr3
import Derived.Test.YtoehobaigfmnpaaDoorMr4
import Derived.Test.YtoehobaigfmnpaaDoorMr5
import Derived.Test.YtoehobaigfmnpaaDoorMr6
import Derived.Test.YtoehobaigfmnpaaDoorMr7
import Derived.Test.YtoehobaigfmnpaaDoorMr8
import Derived.Test.YtoehobaigfmnpaaDoorMr9
import Derived.Test.YtoehobaigfmnpaaDoorMr10
import Derived.Test.YtoehobaigfmnpaaDoorMr11
import Derived.Test.YtoehobaigfmnpaaDoorMr12
import Derived.Test.YtoehobaigfmnpaaDoorMr13
import Derived.Test.YtoehobaigfmnpaaDoorMr14
import Derived.Test.YtoehobaigfmnpaaDoorMr15
import Derived.Test.YtoehobaigfmnpaaDoorMr16
import Derived.Test.YtoehobaigfmnpaaDoorMr17
import Derived.Test.YtoehobaigfmnpaaDoorMr18
import Derived.Test.YtoehobaigfmnpaaDoorMr19
import Derived.Test.YtoehobaigfmnpaaDoorMr20
import Derived.Test.YtoehobaigfmnpaaDoorMr21
import Derived.Test.YtoehobaigfmnpaaDoorMr22
import Derived.Test.YtoehobaigfmnpaaDoorMr23
import Derived.Test.YtoehobaigfmnpaaDoorMr24
import Derived.Test.YtoehobaigfmnpaaDoorMr25
import Derived.Test.YtoehobaigfmnpaaDoorMr26
import Derived.Test.YtoehobaigfmnpaaDoorMr27
import Derived.Test.YtoehobaigfmnpaaDoorMr28
import Derived.Test.YtoehobaigfmnpaaDoorMr29
import Derived.Test.YtoehobaigfmnpaaDoorMr30
import Derived.Test.YtoehobaigfmnpaaDoorMr31
import Derived.Test.YtoehobaigfmnpaaDoorMr32
import Derived.Test.YtoehobaigfmnpaaDoorMr33
import Derived.Test.YtoehobaigfmnpaaDoorMr34
import Derived.Test.YtoehobaigfmnpaaDoorMr35
import Derived.Test.YtoehobaigfmnpaaDoorMr36
import Derived.Test.YtoehobaigfmnpaaDoorMr37
import Derived.Test.YtoehobaigfmnpaaDoorMr38
import Derived.Test.YtoehobaigfmnpaaDoorMr39
import Derived.Test.YtoehobaigfmnpaaDoorMr40
import Derived.Test.YtoehobaigfmnpaaDoorMr41
import Derived.Test.YtoehobaigfmnpaaDoorMr42
import Derived.Test.YtoehobaigfmnpaaDoorMr43
import Derived.Test.YtoehobaigfmnpaaDoorMr44
import Derived.Test.YtoehobaigfmnpaaDoorMr45
import Derived.Test.YtoehobaigfmnpaaDoorMr46
import Derived.Test.YtoehobaigfmnpaaDoorMr47
import Derived.Test.YtoehobaigfmnpaaDoorMr48
section
namespace Go.Proofs.YtoehobaigfmnpaaDoor
open Go.RowKit
theorem hid2 {p0 p1 : Prop} (h0 : p0) (h1 : p1) : Hid p0 ∧ Hid p1 := ⟨h0, h1⟩
theorem hid3 {p0 p1 p2 : Prop} (h0 : p0) (h1 : p1) (h2 : p2) : Hid p0 ∧ Hid p1 ∧ Hid p2 := ⟨h0, h1, h2⟩
theorem hid4 {p0 p1 p2 p3 : Prop} (h0 : p0) (h1 : p1) (h2 : p2) (h3 : p3) : Hid p0 ∧ Hid p1 ∧ Hid p2 ∧ Hid p3 := ⟨h0, h1, h2, h3⟩
theorem hid5 {p0 p1 p2 p3 p4 : Prop} (h0 : p0) (h1 : p1) (h2 : p2) (h3 : p3) (h4 : p4) : Hid p0 ∧ Hid p1 ∧ Hid p2 ∧ Hid p3 ∧ Hid p4 := ⟨h0, h1, h2, h3, h4⟩
theorem hid6 {p0 p1 p2 p3 p4 p5 : Prop} (h0 : p0) (h1 : p1) (h2 : p2) (h3 : p3) (h4 : p4) (h5 : p5) : Hid p0 ∧ Hid p1 ∧ Hid p2 ∧ Hid p3 ∧ Hid p4 ∧ Hid p5 := ⟨h0, h1, h2, h3, h4, h5⟩
theorem hid7 {p0 p1 p2 p3 p4 p5 p6 : Prop} (h0 : p0) (h1 : p1) (h2 : p2) (h3 : p3) (h4 : p4) (h5 : p5) (h6 : p6) : Hid p0 ∧ Hid p1 ∧ Hid p2 ∧ Hid p3 ∧ Hid p4 ∧ Hid p5 ∧ Hid p6 := ⟨h0, h1, h2, h3, h4, h5, h6⟩
theorem hid8 {p0 p1 p2 p3 p4 p5 p6 p7 : Prop} (h0 : p0) (h1 : p1) (h2 : p2) (h3 : p3) (h4 : p4) (h5 : p5) (h6 : p6) (h7 : p7) : Hid p0 ∧ Hid p1 ∧ Hid p2 ∧ Hid p3 ∧ Hid p4 ∧ Hid p5 ∧ Hid p6 ∧ Hid p7 := ⟨h0, h1, h2, h3, h4, h5, h6, h7⟩
theorem at4_of {w : World} {b : Nat} {v0 v1 v2 v3 : Value} (h : Blk w b #[v0, v1, v2, v3]) : w.cell? ⟨b, 0, none⟩ = some v0 ∧ w.cell? ⟨b, 1, none⟩ = some v1 ∧ w.cell? ⟨b, 2, none⟩ = some v2 ∧ w.cell? ⟨b, 3, none⟩ = some v3 := ⟨(h 0 _ rfl).at, (h 1 _ rfl).at, (h 2 _ rfl).at, (h 3 _ rfl).at⟩
theorem at12_of {w : World} {b : Nat} {v0 v1 v2 v3 v4 v5 v6 v7 v8 v9 v10 v11 : Value} (h : Blk w b #[v0, v1, v2, v3, v4, v5, v6, v7, v8, v9, v10, v11]) : w.cell? ⟨b, 0, none⟩ = some v0 ∧ w.cell? ⟨b, 1, none⟩ = some v1 ∧ w.cell? ⟨b, 2, none⟩ = some v2 ∧ w.cell? ⟨b, 3, none⟩ = some v3 ∧ w.cell? ⟨b, 4, none⟩ = some v4 ∧ w.cell? ⟨b, 5, none⟩ = some v5 ∧ w.cell? ⟨b, 6, none⟩ = some v6 ∧ w.cell? ⟨b, 7, none⟩ = some v7 ∧ w.cell? ⟨b, 8, none⟩ = some v8 ∧ w.cell? ⟨b, 9, none⟩ = some v9 ∧ w.cell? ⟨b, 10, none⟩ = some v10 ∧ w.cell? ⟨b, 11, none⟩ = some v11 := ⟨(h 0 _ rfl).at, (h 1 _ rfl).at, (h 2 _ rfl).at, (h 3 _ rfl).at, (h 4 _ rfl).at, (h 5 _ rfl).at, (h 6 _ rfl).at, (h 7 _ rfl).at, (h 8 _ rfl).at, (h 9 _ rfl).at, (h 10 _ rfl).at, (h 11 _ rfl).at⟩
theorem free12_of {w : World} {b : Nat} {v0 v1 v2 v3 v4 v5 v6 v7 v8 v9 v10 v11 : Value} (h : Blk w b #[v0, v1, v2, v3, v4, v5, v6, v7, v8, v9, v10, v11]) : w.frozen? ⟨b, 0, none⟩ = false ∧ w.frozen? ⟨b, 1, none⟩ = false ∧ w.frozen? ⟨b, 2, none⟩ = false ∧ w.frozen? ⟨b, 3, none⟩ = false ∧ w.frozen? ⟨b, 4, none⟩ = false ∧ w.frozen? ⟨b, 5, none⟩ = false ∧ w.frozen? ⟨b, 6, none⟩ = false ∧ w.frozen? ⟨b, 7, none⟩ = false ∧ w.frozen? ⟨b, 8, none⟩ = false ∧ w.frozen? ⟨b, 9, none⟩ = false ∧ w.frozen? ⟨b, 10, none⟩ = false ∧ w.frozen? ⟨b, 11, none⟩ = false := ⟨(h 0 _ rfl).free, (h 1 _ rfl).free, (h 2 _ rfl).free, (h 3 _ rfl).free, (h 4 _ rfl).free, (h 5 _ rfl).free, (h 6 _ rfl).free, (h 7 _ rfl).free, (h 8 _ rfl).free, (h 9 _ rfl).free, (h 10 _ rfl).free, (h 11 _ rfl).free⟩
end Go.Proofs.YtoehobaigfmnpaaDoor
end
section
namespace Go.Proofs.YtoehobaigfmnpaaDoor
set_option linter.unusedSimpArgs false
set_option linter.unusedVariables false
set_option maxRecDepth 100000
open Go.RowKit Go.Maps
section
variable {P : Program} {k e t : TypeId} {w w' : World} {b n : Nat} {D : DataW Value}
/-- m[k] = v, at the operation -/
theorem wp_update_any {ops : Array Oper} {rest : List Oper} {o : Oper} {a : Act} {Q : Exit → Act → World → Prop} (w : World) (hg : o.guard = none) (m x v : Operand) (t : TypeId) (hop : o.op = Op.mapUpdate t m x v)
    (k e : TypeId) (K : Keyed P k) (ht : P.underlying t = some (.map k e)) (b n : Nat) (D : DataW Value) (hm : a.eval m = .map (some b)) (hown : MapAt w P k b n D) (hn : n < maxLen) (key val : Value) (kl : Lit) (hx : a.eval x = key) (hv : a.eval v = val) (hkey : keyOf P k key = some kl)
    (hK : ∀ w', MapAt w' P k b (n + 1) (D.put kl (.held val)) → w.grownBy w' (some b) → wpList P ops Q rest (a.put o.dst undef) w') : wpList P ops Q (o :: rest) a w := by
  refine wpList_plain hg fun K' hK' => ?_
  obtain ⟨w', hrun, r1, r2⟩ := hown.store K ht hn (val := val) hkey
  unfold Oper.wp
  simp [execOp, hop, hm, hx, hv, hrun, Result.andThen]
  exact hK' _ _ (hK w' r1 r2)
end
end Go.Proofs.YtoehobaigfmnpaaDoor
end
section
namespace Go.Proofs.YtoehobaigfmnpaaDoor
set_option linter.unusedSimpArgs false
set_option linter.unusedVariables false
set_option maxRecDepth 100000
open Go.RowKit
theorem aft_ge (l : Lk) (c : Crd) : (keepS l).c ≤ aftC l c := by
  unfold aftC; split <;> omega
theorem count_stays {l : Lk} {c : Crd} {t a : Int} (h : shE l c t a = 0) : (keepS l).c ≤ (keepS (shR l c t a)).c := by
  have hL := left_of h
  by_cases ha : a < 2
  · rw [hL.old ha]; omega
  · rw [(hL.new (by omega)).1]; exact aft_ge l c
end Go.Proofs.YtoehobaigfmnpaaDoor
end
section
namespace Go.Proofs.YtoehobaigfmnpaaDoor
set_option linter.unusedSimpArgs false
set_option linter.unusedVariables false
set_option maxRecDepth 100000
open Go.RowKit
/-- a list that does not lie in a block -/
def Off (A : Option Addr) (l : List Int) (g : Nat) : Prop := ∀ b off, l ≠ [] → A = some ⟨b, off, none⟩ → b ≠ g
theorem off_old {w : World} {A : Option Addr} {l : List Int} (h : IntsAt w A .i64 l) : Off A l w.heap.size := fun b off hl hA => by
  have hlen : 0 < l.length := by
    cases l with
    | nil => exact absurd rfl hl
    | cons x r => simp
  obtain ⟨b2, o2, e, h5, _⟩ := h 0 hlen
  rw [hA] at e
  injection e with e
  injection e with e1 _
  omega
theorem Prov.off {w w' : World} {A0 A : Option Addr} {l0 l : List Int} {g : Nat} (h : Prov w w' A0 l0 A l) (h0 : Off A0 l0 g) (hg : g < w.heap.size) : Off A l g := fun b off hl hA => by
  rcases h.2 with h3 | ⟨h3, h4⟩ | h3
  · exact absurd h3 hl
  · subst h3 h4; exact h0 b off hl hA
  · have := h3 b off hA
    omega
/-- a lock in a block that is written again and again -/
structure LkAt (g : Nat) (wr : World) (L : Lk) (A : Option Addr) (p : Nat) (B : Option Addr) (r : Nat) : Prop where
  blk : Blk wr g (L.cells A L.x.l.length p B L.y.l.length r).toArray
  a : IntsAt wr A .i64 L.x.l
  b : IntsAt wr B .i64 L.y.l
  oa : Off A L.x.l g
  ob : Off B L.y.l g
  fx : SFit L.x
  fy : SFit L.y
  v : lvB L = true
end Go.Proofs.YtoehobaigfmnpaaDoor
end

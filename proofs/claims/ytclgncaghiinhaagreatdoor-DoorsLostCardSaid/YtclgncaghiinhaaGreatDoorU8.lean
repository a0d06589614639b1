/- Contracts of package slot: Write. -/
import Derived.Deep.Cut
import Derived.Test.YtclgncaghiinhaaGreatDoorU4
import Derived.Test.YtclgncaghiinhaaGreatDoorU7
set_option linter.unusedSimpArgs false
set_option linter.unusedVariables false
set_option maxRecDepth 100000
namespace Go.Proofs.YtclgncaghiinhaaGreatDoor
open Go.RowKit
theorem nameC {W w : World} (h : W = w) {b o : Nat} {v : Value} (hc : W.cell? ⟨b, o, none⟩ = some v) : w.cell? ⟨b, o, none⟩ = some v := h ▸ hc
theorem nameF {W w : World} (h : W = w) {b o : Nat} (hc : W.frozen? ⟨b, o, none⟩ = false) : w.frozen? ⟨b, o, none⟩ = false := h ▸ hc
/-- a block of cells that may be written -/
def Blk (w : World) (b : Nat) (vs : Array Value) : Prop := ∀ o v, vs[o]? = some v → Cel w b o v
theorem Blk.below {w w' : World} {b : Nat} {vs : Array Value} (h : Blk w b vs) (hb : Below w.heap.size w w') : Blk w' b vs := fun o v hv => (h o v hv).below hb
theorem blk_new {w : World} {vs : Array Value} {t : TypeId} {n : Nat} (hn : w.heap.size = n) : Blk (w.alloc (.cells vs t)) n vs := fun _ _ h => cel_new hn h
theorem Blk.alloc {w : World} {b : Nat} {vs : Array Value} (h : Blk w b vs) (x : Obj) : Blk (w.alloc x) b vs := fun o v hv => (h o v hv).alloc x
theorem Blk.set {w : World} {b : Nat} {vs : Array Value} (h : Blk w b vs) (o : Nat) (u : Value) (ho : o < vs.size) : Blk (w.setCell ⟨b, o, none⟩ u) b (vs.setIfInBounds o u) := fun i v hi => by
 by_cases e : i = o
 ·subst e
  have : v = u := by simpa [Array.getElem?_setIfInBounds, ho] using hi.symm
  subst this
  exact (h i _ (Array.getElem?_eq_getElem ho)).same v
 ·have hv : vs[i]? = some v := by simpa [Array.getElem?_setIfInBounds, Ne.symm e] using hi
  exact (h i v hv).near (fun h2 => e h2.symm) u
theorem Blk.far {w : World} {b : Nat} {vs : Array Value} (h : Blk w b vs) {g o : Nat} (hg : g ≠ b) (u : Value) : Blk (w.setCell ⟨g, o, none⟩ u) b vs := fun i v hi => (h i v hi).far hg u
/-- stores into one block, one behind the other -/
def putL (w : World) (b : Nat) : Nat → List Value → World
 | _, [] => w
 | o, v :: r => putL (w.setCell ⟨b, o, none⟩ v) b (o + 1) r
theorem putL_size {b : Nat} : ∀ (vs : List Value) (w : World) (o : Nat), (putL w b o vs).heap.size = w.heap.size
 | [], w, o => rfl
 | v :: r, w, o => by rw [putL, putL_size r]; simp
theorem putL_below {B b : Nat} {w0 : World} (hb : B ≤ b) : ∀ (vs : List Value) (w : World) (o : Nat), Below B w0 w → Below B w0 (putL w b o vs)
 | [], w, o, h => h
 | v :: r, w, o, h => putL_below hb r _ _ (below_set h hb o v)
theorem putL_cfar {b g j : Nat} {u : Value} (hne : b ≠ g) : ∀ (vs : List Value) (w : World) (o : Nat), Cel w g j u → Cel (putL w b o vs) g j u
 | [], w, o, h => h
 | v :: r, w, o, h => putL_cfar hne r _ _ (h.far hne v)
theorem putL_far {b g : Nat} {us : Array Value} {w : World} (h : Blk w g us) (hne : b ≠ g) (o : Nat) (vs : List Value) : Blk (putL w b o vs) g us := fun i v hi => putL_cfar hne vs w o (h i v hi)
theorem putL_near {b j : Nat} {u : Value} : ∀ (vs : List Value) (w : World) (o : Nat), j < o → Cel w b j u → Cel (putL w b o vs) b j u
 | [], w, o, _, h => h
 | v :: r, w, o, hj, h => putL_near r _ _ (by omega) (h.near (by omega) v)
theorem putL_cel {b : Nat} : ∀ (vs : List Value) (w : World) (o : Nat), (∀ i, i < vs.length → ∃ u, Cel w b (o + i) u) → ∀ i v, vs[i]? = some v → Cel (putL w b o vs) b (o + i) v
 | [], w, o, _, i, v, h => by simp at h
 | x :: r, w, o, hc, i, v, h => by
  obtain ⟨u0, h0⟩ := hc 0 (by simp)
  rw [Nat.add_zero] at h0
  cases i with
  | zero =>
   have e : x = v := by simpa using h
   subst e
   exact putL_near r _ _ (by omega) (h0.same x)
  | succ i =>
   have := putL_cel r (w.setCell ⟨b, o, none⟩ x) (o + 1) (fun i hi => by
    obtain ⟨u, hu⟩ := hc (i + 1) (by simpa using hi)
    exact ⟨u, by rw [show o + 1 + i = o + (i + 1) by omega]; exact hu.near (by omega) x⟩) i v (by simpa using h)
   rw [putL, show o + (i + 1) = o + 1 + i by omega]; exact this
/-- a block written whole -/
theorem putL_blk {w : World} {b : Nat} {us : Array Value} (h : Blk w b us) (vs : List Value) (hs : vs.length ≤ us.size) : Blk (putL w b 0 vs) b vs.toArray := fun i v hi => by
 have := putL_cel vs w 0 (fun i hi => ⟨us[i]'(by omega), by rw [Nat.zero_add]; exact h i _ (Array.getElem?_eq_getElem (by omega))⟩) i v (by simpa using hi)
 rw [Nat.zero_add] at this; exact this
theorem putL_ints {b : Nat} {k : IntKind} {A : Option Addr} {l : List Int} (hne : ∀ b' off, l ≠ [] → A = some ⟨b', off, none⟩ → b' ≠ b) : ∀ (vs : List Value) (w : World) (o : Nat), IntsAt w A k l → IntsAt (putL w b o vs) A k l
 | [], w, o, h => h
 | v :: r, w, o, h => putL_ints hne r _ _ fun i hi => by
  obtain ⟨b', off, e, h1, h2⟩ := h i hi
  have hn := hne b' off (fun e => by rw [e] at hi; simp at hi) e
  refine ⟨b', off, e, by simpa using h1, ?_⟩
  rw [World.cell?_setCell_other w ⟨b, o, none⟩ ⟨b', off + i, none⟩ v (fun e => by injection e with e1 _; exact hn e1.symm)]; exact h2
theorem at4_of {w : World} {b : Nat} {v0 v1 v2 v3 : Value} (h : Blk w b #[v0, v1, v2, v3]) : w.cell? ⟨b, 0, none⟩ = some v0 ∧ w.cell? ⟨b, 1, none⟩ = some v1 ∧ w.cell? ⟨b, 2, none⟩ = some v2 ∧ w.cell? ⟨b, 3, none⟩ = some v3 := ⟨(h 0 _ rfl).at, (h 1 _ rfl).at, (h 2 _ rfl).at, (h 3 _ rfl).at⟩
theorem at9_of {w : World} {b : Nat} {v0 v1 v2 v3 v4 v5 v6 v7 v8 : Value} (h : Blk w b #[v0, v1, v2, v3, v4, v5, v6, v7, v8]) : w.cell? ⟨b, 0, none⟩ = some v0 ∧ w.cell? ⟨b, 1, none⟩ = some v1 ∧ w.cell? ⟨b, 2, none⟩ = some v2 ∧ w.cell? ⟨b, 3, none⟩ = some v3 ∧ w.cell? ⟨b, 4, none⟩ = some v4 ∧ w.cell? ⟨b, 5, none⟩ = some v5 ∧ w.cell? ⟨b, 6, none⟩ = some v6 ∧ w.cell? ⟨b, 7, none⟩ = some v7 ∧ w.cell? ⟨b, 8, none⟩ = some v8 := ⟨(h 0 _ rfl).at, (h 1 _ rfl).at, (h 2 _ rfl).at, (h 3 _ rfl).at, (h 4 _ rfl).at, (h 5 _ rfl).at, (h 6 _ rfl).at, (h 7 _ rfl).at, (h 8 _ rfl).at⟩
theorem at12_of {w : World} {b : Nat} {v0 v1 v2 v3 v4 v5 v6 v7 v8 v9 v10 v11 : Value} (h : Blk w b #[v0, v1, v2, v3, v4, v5, v6, v7, v8, v9, v10, v11]) : w.cell? ⟨b, 0, none⟩ = some v0 ∧ w.cell? ⟨b, 1, none⟩ = some v1 ∧ w.cell? ⟨b, 2, none⟩ = some v2 ∧ w.cell? ⟨b, 3, none⟩ = some v3 ∧ w.cell? ⟨b, 4, none⟩ = some v4 ∧ w.cell? ⟨b, 5, none⟩ = some v5 ∧ w.cell? ⟨b, 6, none⟩ = some v6 ∧ w.cell? ⟨b, 7, none⟩ = some v7 ∧ w.cell? ⟨b, 8, none⟩ = some v8 ∧ w.cell? ⟨b, 9, none⟩ = some v9 ∧ w.cell? ⟨b, 10, none⟩ = some v10 ∧ w.cell? ⟨b, 11, none⟩ = some v11 := ⟨(h 0 _ rfl).at, (h 1 _ rfl).at, (h 2 _ rfl).at, (h 3 _ rfl).at, (h 4 _ rfl).at, (h 5 _ rfl).at, (h 6 _ rfl).at, (h 7 _ rfl).at, (h 8 _ rfl).at, (h 9 _ rfl).at, (h 10 _ rfl).at, (h 11 _ rfl).at⟩
theorem free4_of {w : World} {b : Nat} {v0 v1 v2 v3 : Value} (h : Blk w b #[v0, v1, v2, v3]) : w.frozen? ⟨b, 0, none⟩ = false ∧ w.frozen? ⟨b, 1, none⟩ = false ∧ w.frozen? ⟨b, 2, none⟩ = false ∧ w.frozen? ⟨b, 3, none⟩ = false := ⟨(h 0 _ rfl).free, (h 1 _ rfl).free, (h 2 _ rfl).free, (h 3 _ rfl).free⟩
theorem free9_of {w : World} {b : Nat} {v0 v1 v2 v3 v4 v5 v6 v7 v8 : Value} (h : Blk w b #[v0, v1, v2, v3, v4, v5, v6, v7, v8]) : w.frozen? ⟨b, 0, none⟩ = false ∧ w.frozen? ⟨b, 1, none⟩ = false ∧ w.frozen? ⟨b, 2, none⟩ = false ∧ w.frozen? ⟨b, 3, none⟩ = false ∧ w.frozen? ⟨b, 4, none⟩ = false ∧ w.frozen? ⟨b, 5, none⟩ = false ∧ w.frozen? ⟨b, 6, none⟩ = false ∧ w.frozen? ⟨b, 7, none⟩ = false ∧ w.frozen? ⟨b, 8, none⟩ = false := ⟨(h 0 _ rfl).free, (h 1 _ rfl).free, (h 2 _ rfl).free, (h 3 _ rfl).free, (h 4 _ rfl).free, (h 5 _ rfl).free, (h 6 _ rfl).free, (h 7 _ rfl).free, (h 8 _ rfl).free⟩
theorem free12_of {w : World} {b : Nat} {v0 v1 v2 v3 v4 v5 v6 v7 v8 v9 v10 v11 : Value} (h : Blk w b #[v0, v1, v2, v3, v4, v5, v6, v7, v8, v9, v10, v11]) : w.frozen? ⟨b, 0, none⟩ = false ∧ w.frozen? ⟨b, 1, none⟩ = false ∧ w.frozen? ⟨b, 2, none⟩ = false ∧ w.frozen? ⟨b, 3, none⟩ = false ∧ w.frozen? ⟨b, 4, none⟩ = false ∧ w.frozen? ⟨b, 5, none⟩ = false ∧ w.frozen? ⟨b, 6, none⟩ = false ∧ w.frozen? ⟨b, 7, none⟩ = false ∧ w.frozen? ⟨b, 8, none⟩ = false ∧ w.frozen? ⟨b, 9, none⟩ = false ∧ w.frozen? ⟨b, 10, none⟩ = false ∧ w.frozen? ⟨b, 11, none⟩ = false := ⟨(h 0 _ rfl).free, (h 1 _ rfl).free, (h 2 _ rfl).free, (h 3 _ rfl).free, (h 4 _ rfl).free, (h 5 _ rfl).free, (h 6 _ rfl).free, (h 7 _ rfl).free, (h 8 _ rfl).free, (h 9 _ rfl).free, (h 10 _ rfl).free, (h 11 _ rfl).free⟩
theorem nf4 {W w : World} (h : W = w) (b : Nat) {v0 v1 v2 v3 : Value} (c0 : W.cell? ⟨b, 0, none⟩ = some v0 := by go_simp; with_reducible rfl) (f0 : W.frozen? ⟨b, 0, none⟩ = false := by go_simp) (c1 : W.cell? ⟨b, 1, none⟩ = some v1 := by go_simp; with_reducible rfl) (f1 : W.frozen? ⟨b, 1, none⟩ = false := by go_simp) (c2 : W.cell? ⟨b, 2, none⟩ = some v2 := by go_simp; with_reducible rfl) (f2 : W.frozen? ⟨b, 2, none⟩ = false := by go_simp) (c3 : W.cell? ⟨b, 3, none⟩ = some v3 := by go_simp; with_reducible rfl) (f3 : W.frozen? ⟨b, 3, none⟩ = false := by go_simp) : w.cell? ⟨b, 0, none⟩ = some v0 ∧ w.frozen? ⟨b, 0, none⟩ = false ∧ w.cell? ⟨b, 1, none⟩ = some v1 ∧ w.frozen? ⟨b, 1, none⟩ = false ∧ w.cell? ⟨b, 2, none⟩ = some v2 ∧ w.frozen? ⟨b, 2, none⟩ = false ∧ w.cell? ⟨b, 3, none⟩ = some v3 ∧ w.frozen? ⟨b, 3, none⟩ = false := ⟨nameC h c0, nameF h f0, nameC h c1, nameF h f1, nameC h c2, nameF h f2, nameC h c3, nameF h f3⟩
theorem nf8 {W w : World} (h : W = w) (b : Nat) {v0 v1 v2 v3 v4 v5 v6 v7 : Value} (c0 : W.cell? ⟨b, 0, none⟩ = some v0 := by go_simp; with_reducible rfl) (f0 : W.frozen? ⟨b, 0, none⟩ = false := by go_simp) (c1 : W.cell? ⟨b, 1, none⟩ = some v1 := by go_simp; with_reducible rfl) (f1 : W.frozen? ⟨b, 1, none⟩ = false := by go_simp) (c2 : W.cell? ⟨b, 2, none⟩ = some v2 := by go_simp; with_reducible rfl) (f2 : W.frozen? ⟨b, 2, none⟩ = false := by go_simp) (c3 : W.cell? ⟨b, 3, none⟩ = some v3 := by go_simp; with_reducible rfl) (f3 : W.frozen? ⟨b, 3, none⟩ = false := by go_simp) (c4 : W.cell? ⟨b, 4, none⟩ = some v4 := by go_simp; with_reducible rfl) (f4 : W.frozen? ⟨b, 4, none⟩ = false := by go_simp) (c5 : W.cell? ⟨b, 5, none⟩ = some v5 := by go_simp; with_reducible rfl) (f5 : W.frozen? ⟨b, 5, none⟩ = false := by go_simp) (c6 : W.cell? ⟨b, 6, none⟩ = some v6 := by go_simp; with_reducible rfl) (f6 : W.frozen? ⟨b, 6, none⟩ = false := by go_simp) (c7 : W.cell? ⟨b, 7, none⟩ = some v7 := by go_simp; with_reducible rfl) (f7 : W.frozen? ⟨b, 7, none⟩ = false := by go_simp) : w.cell? ⟨b, 0, none⟩ = some v0 ∧ w.frozen? ⟨b, 0, none⟩ = false ∧ w.cell? ⟨b, 1, none⟩ = some v1 ∧ w.frozen? ⟨b, 1, none⟩ = false ∧ w.cell? ⟨b, 2, none⟩ = some v2 ∧ w.frozen? ⟨b, 2, none⟩ = false ∧ w.cell? ⟨b, 3, none⟩ = some v3 ∧ w.frozen? ⟨b, 3, none⟩ = false ∧ w.cell? ⟨b, 4, none⟩ = some v4 ∧ w.frozen? ⟨b, 4, none⟩ = false ∧ w.cell? ⟨b, 5, none⟩ = some v5 ∧ w.frozen? ⟨b, 5, none⟩ = false ∧ w.cell? ⟨b, 6, none⟩ = some v6 ∧ w.frozen? ⟨b, 6, none⟩ = false ∧ w.cell? ⟨b, 7, none⟩ = some v7 ∧ w.frozen? ⟨b, 7, none⟩ = false := ⟨nameC h c0, nameF h f0, nameC h c1, nameF h f1, nameC h c2, nameF h f2, nameC h c3, nameF h f3, nameC h c4, nameF h f4, nameC h c5, nameF h f5, nameC h c6, nameF h f6, nameC h c7, nameF h f7⟩
theorem nf9 {W w : World} (h : W = w) (b : Nat) {v0 v1 v2 v3 v4 v5 v6 v7 v8 : Value} (c0 : W.cell? ⟨b, 0, none⟩ = some v0 := by go_simp; with_reducible rfl) (f0 : W.frozen? ⟨b, 0, none⟩ = false := by go_simp) (c1 : W.cell? ⟨b, 1, none⟩ = some v1 := by go_simp; with_reducible rfl) (f1 : W.frozen? ⟨b, 1, none⟩ = false := by go_simp) (c2 : W.cell? ⟨b, 2, none⟩ = some v2 := by go_simp; with_reducible rfl) (f2 : W.frozen? ⟨b, 2, none⟩ = false := by go_simp) (c3 : W.cell? ⟨b, 3, none⟩ = some v3 := by go_simp; with_reducible rfl) (f3 : W.frozen? ⟨b, 3, none⟩ = false := by go_simp) (c4 : W.cell? ⟨b, 4, none⟩ = some v4 := by go_simp; with_reducible rfl) (f4 : W.frozen? ⟨b, 4, none⟩ = false := by go_simp) (c5 : W.cell? ⟨b, 5, none⟩ = some v5 := by go_simp; with_reducible rfl) (f5 : W.frozen? ⟨b, 5, none⟩ = false := by go_simp) (c6 : W.cell? ⟨b, 6, none⟩ = some v6 := by go_simp; with_reducible rfl) (f6 : W.frozen? ⟨b, 6, none⟩ = false := by go_simp) (c7 : W.cell? ⟨b, 7, none⟩ = some v7 := by go_simp; with_reducible rfl) (f7 : W.frozen? ⟨b, 7, none⟩ = false := by go_simp) (c8 : W.cell? ⟨b, 8, none⟩ = some v8 := by go_simp; with_reducible rfl) (f8 : W.frozen? ⟨b, 8, none⟩ = false := by go_simp) : w.cell? ⟨b, 0, none⟩ = some v0 ∧ w.frozen? ⟨b, 0, none⟩ = false ∧ w.cell? ⟨b, 1, none⟩ = some v1 ∧ w.frozen? ⟨b, 1, none⟩ = false ∧ w.cell? ⟨b, 2, none⟩ = some v2 ∧ w.frozen? ⟨b, 2, none⟩ = false ∧ w.cell? ⟨b, 3, none⟩ = some v3 ∧ w.frozen? ⟨b, 3, none⟩ = false ∧ w.cell? ⟨b, 4, none⟩ = some v4 ∧ w.frozen? ⟨b, 4, none⟩ = false ∧ w.cell? ⟨b, 5, none⟩ = some v5 ∧ w.frozen? ⟨b, 5, none⟩ = false ∧ w.cell? ⟨b, 6, none⟩ = some v6 ∧ w.frozen? ⟨b, 6, none⟩ = false ∧ w.cell? ⟨b, 7, none⟩ = some v7 ∧ w.frozen? ⟨b, 7, none⟩ = false ∧ w.cell? ⟨b, 8, none⟩ = some v8 ∧ w.frozen? ⟨b, 8, none⟩ = false := ⟨nameC h c0, nameF h f0, nameC h c1, nameF h f1, nameC h c2, nameF h f2, nameC h c3, nameF h f3, nameC h c4, nameF h f4, nameC h c5, nameF h f5, nameC h c6, nameF h f6, nameC h c7, nameF h f7, nameC h c8, nameF h f8⟩
section
/-- two slots and an error number -/
def SlotsErr (x y : Slt) (E : Int) (w : World) (e : Ending) (w' : World) : Prop :=
 ∃ A p B q, e = .returned (.tuple #[.agg #[.int .i64 x.s, .int .i64 x.c, .slice A x.l.length p, .int .u64 x.u, .int .i64 y.s, .int .i64 y.c, .slice B y.l.length q, .int .u64 y.u], .int .i64 E]) ∧ IntsAt w' A .i64 x.l ∧ IntsAt w' B .i64 y.l ∧ Below w.heap.size w w'
theorem slotsErr_zero {E : Int} {w w' : World} (hb : Below w.heap.size w w') : SlotsErr Slt.zero Slt.zero E w (.returned (.tuple #[.agg #[.int .i64 0, .int .i64 0, .slice none 0 0, .int .u64 0, .int .i64 0, .int .i64 0, .slice none 0 0, .int .u64 0], .int .i64 E])) w' := ⟨none, 0, none, 0, rfl, IntsAt.nil, IntsAt.nil, hb⟩
set_option maxHeartbeats 2000000 in
/-- what cannot be made is not written -/
theorem write_made (xs xc xu ys yc yu c at_ E : Int) (A : Option Addr) (n p : Nat) (B : Option Addr) (m q : Nat) (L : Option Addr) (k r : Nat) (w : World) (hE : (E != 0) = true)
  (hm : ∀ W, Below w.heap.size w W → Calls Tryz.prog 45 #[.int .i64 0, .int .i64 c, .slice L k r] W (SlotErr Slt.zero E W)) :
  Calls Tryz.prog 106 #[.agg #[.int .i64 xs, .int .i64 xc, .slice A n p, .int .u64 xu, .int .i64 ys, .int .i64 yc, .slice B m q, .int .u64 yu], .int .i64 c, .slice L k r, .int .i64 at_] w (SlotsErr Slt.zero Slt.zero E w) := by
 obtain ⟨w1, hw1⟩ : ∃ w1, (w.alloc (.cells #[.int .i64 xs, .int .i64 xc, .slice A n p, .int .u64 xu, .int .i64 ys, .int .i64 yc, .slice B m q, .int .u64 yu] 46)).alloc (.cells #[.int .i64 0, .int .i64 0, .slice none 0 0, .int .u64 0, .int .i64 0, .int .i64 0, .slice none 0 0, .int .u64 0] 46) = w1 := ⟨_, rfl⟩
 have b1 : Below w.heap.size w w1 := by rw [← hw1]; exact ((Below.refl _ _).alloc (Nat.le_refl _) _).alloc (by simp) _
 have q1 := hm w1 b1
 unfold SlotErr at q1
 rw [← hw1] at q1
 have ⟨Hhm, Hb1, Hhw1, Hq1⟩ := hid4 hm b1 hw1 q1; clear hm b1 hw1 q1
 go_enter Tryz.func106, Tryz.ntmps106
 go_wp2_with fail
 refine (Hq1.out).mono ?_; rintro e w2 ⟨X, cx, rfl, ho, hbw2⟩
 have hsw2 := hbw2.size; (try simp only [World.size_alloc, World.heap_drewN, World.size_setCell, heap_drew] at hsw2)
 have gw2 : Below w.heap.size w w2 := belt
 obtain ⟨kw2x0x0, fw2x0x0, kw2x0x1, fw2x0x1, kw2x0x2, fw2x0x2, kw2x0x3, fw2x0x3, kw2x0x4, fw2x0x4, kw2x0x5, fw2x0x5, kw2x0x6, fw2x0x6, kw2x0x7, fw2x0x7⟩ := kf8 hbw2 (w.heap.size + 1)
 have zw2x0 : w.heap.size + 1 < w2.heap.size := by omega
 have Hhbw2 := Lib.hid hbw2; clear hbw2
 go_wp2_with fail
 refine bodyPost_ret (v := .tuple #[.agg #[.int .i64 0, .int .i64 0, .slice none 0 0, .int .u64 0, .int .i64 0, .int .i64 0, .slice none 0 0, .int .u64 0], .int .i64 E]) (by simp [results, Tryz.results106, go_sem, *]) rfl (slotsErr_zero belt)
/-- a list that lies in the blocks from lo to before hi -/
def Seg (w : World) (lo hi : Nat) (A : Option Addr) (l : List Int) : Prop :=
 ∀ i, i < l.length → ∃ b off, A = some ⟨b, off, none⟩ ∧ lo ≤ b ∧ b < hi ∧ b < w.heap.size ∧ w.cell? ⟨b, off + i, none⟩ = some (.int .i64 (l.getD i 0))
section
variable {w w' : World} {lo hi : Nat} {A : Option Addr} {l : List Int}
theorem Seg.ints (h : Seg w lo hi A l) : IntsAt w A .i64 l := fun i hi' => by
 obtain ⟨b, off, e, _, _, h1, h2⟩ := h i hi'; exact ⟨b, off, e, h1, h2⟩
theorem seg_own {E : TypeId} {c : Nat} (h : OwnInts w lo E .i64 A c l) : Seg w lo w.heap.size A l := fun i hi' => by
 obtain ⟨b, off, e, h1, h2⟩ := h.ints i hi'
 subst e
 exact ⟨b, off, rfl, (h.lt b rfl).1, h1, h1, h2⟩
theorem Seg.below (h : Seg w lo hi A l) (hb : Below w.heap.size w w') : Seg w' lo hi A l := fun i hi' => by
 obtain ⟨b, off, e, h0, h1, h2, h3⟩ := h i hi'; exact ⟨b, off, e, h0, h1, Nat.lt_of_lt_of_le h2 hb.size, (hb.cell (p := ⟨b, off + i, none⟩) h2).trans h3⟩
theorem Seg.alloc (h : Seg w lo hi A l) (o : Obj) : Seg (w.alloc o) lo hi A l := h.below ((Below.refl _ _).alloc (Nat.le_refl _) o)
theorem Seg.drew (h : Seg w lo hi A l) : Seg w.drew lo hi A l := h
theorem Seg.set (h : Seg w lo hi A l) {p : Addr} (hp : p.block < lo ∨ hi ≤ p.block) (v : Value) : Seg (w.setCell p v) lo hi A l := fun i hi' => by
 obtain ⟨b, off, e, h0, h1, h2, h3⟩ := h i hi'
 refine ⟨b, off, e, h0, h1, by simpa using h2, ?_⟩
 rw [World.cell?_setCell_other w p ⟨b, off + i, none⟩ v (fun e => by subst e; simp at hp; omega)]; exact h3
end
theorem wr_eq0 {x y : Slt} {c at_ : Int} {l : List Int} (h : wrE x y c l at_ = 0) : (wr0 x y c l at_ = if into0 x y = true ∧ at_ ≠ 0 then wrS x y c l at_ else x) ∧ (wr1 x y c l at_ = if into0 x y = false ∧ at_ ≠ 0 then wrS x y c l at_ else y) := ⟨by rw [wr0, if_pos h], by rw [wr1, if_pos h]⟩
end
end Go.Proofs.YtclgncaghiinhaaGreatDoor

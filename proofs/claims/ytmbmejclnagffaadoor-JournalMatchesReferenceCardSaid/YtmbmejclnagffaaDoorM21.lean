/- Blocks of cells that may be written. -/
import Derived.Test.YtmbmejclnagffaaDoorM20
set_option linter.unusedSimpArgs false
set_option linter.unusedVariables false
set_option maxRecDepth 100000
namespace Go.Proofs.YtmbmejclnagffaaDoor
open Go.RowKit
/-- a block of cells that may be written -/
def Blk (w : World) (b : Nat) (vs : Array Value) : Prop := ∀ o v, vs[o]? = some v → Cel w b o v
theorem Blk.below {w w' : World} {b : Nat} {vs : Array Value} (h : Blk w b vs) (hb : Below w.heap.size w w') : Blk w' b vs := fun o v hv => (h o v hv).below hb
theorem blk_new {w : World} {vs : Array Value} {t : TypeId} {n : Nat} (hn : w.heap.size = n) : Blk (w.alloc (.cells vs t)) n vs := fun _ _ h => cel_new hn h
theorem Blk.alloc {w : World} {b : Nat} {vs : Array Value} (h : Blk w b vs) (x : Obj) : Blk (w.alloc x) b vs := fun o v hv => (h o v hv).alloc x
theorem Blk.set {w : World} {b : Nat} {vs : Array Value} (h : Blk w b vs) (o : Nat) (u : Value) (ho : o < vs.size) : Blk (w.setCell ⟨b, o, none⟩ u) b (vs.setIfInBounds o u) := fun i v hi => by
  by_cases e : i = o
  · subst e
    have : v = u := by simpa [Array.getElem?_setIfInBounds, ho] using hi.symm
    subst this
    exact (h i _ (Array.getElem?_eq_getElem ho)).same v
  · have hv : vs[i]? = some v := by simpa [Array.getElem?_setIfInBounds, Ne.symm e] using hi
    exact (h i v hv).near (fun h2 => e h2.symm) u
theorem Blk.far {w : World} {b : Nat} {vs : Array Value} (h : Blk w b vs) {g o : Nat} (hg : g ≠ b) (u : Value) : Blk (w.setCell ⟨g, o, none⟩ u) b vs := fun i v hi => (h i v hi).far hg u
/-- stores into one block, one behind the other -/
def putL (w : World) (b : Nat) : Nat → List Value → World
  | _, [] => w
  | o, v :: r => putL (w.setCell ⟨b, o, none⟩ v) b (o + 1) r
theorem putL_size {b : Nat} : ∀ (vs : List Value) (w : World) (o : Nat), (putL w b o vs).heap.size = w.heap.size
  | [], w, o => rfl
  | v :: r, w, o => by rw [putL, putL_size r]; simp
theorem putL_below {B b : Nat} {w0 : World} (hb : B ≤ b) : ∀ (vs : List Value) (w : World) (o : Nat), Below B w0 w → Below B w0 (putL w b o vs)
  | [], w, o, h => h
  | v :: r, w, o, h => putL_below hb r _ _ (below_set h hb o v)
theorem putL_near {b j : Nat} {u : Value} : ∀ (vs : List Value) (w : World) (o : Nat), j < o → Cel w b j u → Cel (putL w b o vs) b j u
  | [], w, o, _, h => h
  | v :: r, w, o, hj, h => putL_near r _ _ (by omega) (h.near (by omega) v)
theorem putL_cel {b : Nat} : ∀ (vs : List Value) (w : World) (o : Nat), (∀ i, i < vs.length → ∃ u, Cel w b (o + i) u) → ∀ i v, vs[i]? = some v → Cel (putL w b o vs) b (o + i) v
  | [], w, o, _, i, v, h => by simp at h
  | x :: r, w, o, hc, i, v, h => by
    obtain ⟨u0, h0⟩ := hc 0 (by simp)
    rw [Nat.add_zero] at h0
    cases i with
    | zero =>
      have e : x = v := by simpa using h
      subst e
      exact putL_near r _ _ (by omega) (h0.same x)
    | succ i =>
      have := putL_cel r (w.setCell ⟨b, o, none⟩ x) (o + 1) (fun i hi => by
        obtain ⟨u, hu⟩ := hc (i + 1) (by simpa using hi)
        exact ⟨u, by rw [show o + 1 + i = o + (i + 1) by omega]; exact hu.near (by omega) x⟩) i v (by simpa using h)
      rw [putL, show o + (i + 1) = o + 1 + i by omega]; exact this
/-- a block written whole -/
theorem putL_blk {w : World} {b : Nat} {us : Array Value} (h : Blk w b us) (vs : List Value) (hs : vs.length ≤ us.size) : Blk (putL w b 0 vs) b vs.toArray := fun i v hi => by
  have := putL_cel vs w 0 (fun i hi => ⟨us[i]'(by omega), by rw [Nat.zero_add]; exact h i _ (Array.getElem?_eq_getElem (by omega))⟩) i v (by simpa using hi)
  rw [Nat.zero_add] at this; exact this
theorem putL_ints {b : Nat} {k : IntKind} {A : Option Addr} {l : List Int} (hne : ∀ b' off, l ≠ [] → A = some ⟨b', off, none⟩ → b' ≠ b) : ∀ (vs : List Value) (w : World) (o : Nat), IntsAt w A k l → IntsAt (putL w b o vs) A k l
  | [], w, o, h => h
  | v :: r, w, o, h => putL_ints hne r _ _ fun i hi => by
    obtain ⟨b', off, e, h1, h2⟩ := h i hi
    have hn := hne b' off (fun e => by rw [e] at hi; simp at hi) e
    refine ⟨b', off, e, by simpa using h1, ?_⟩
    rw [World.cell?_setCell_other w ⟨b, o, none⟩ ⟨b', off + i, none⟩ v (fun e => by injection e with e1 _; exact hn e1.symm)]; exact h2
end Go.Proofs.YtmbmejclnagffaaDoor

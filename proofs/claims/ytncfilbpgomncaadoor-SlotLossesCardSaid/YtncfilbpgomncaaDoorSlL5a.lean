/- What Write leaves in a round of SlotLosses: plain facts on the worlds. -/
import Derived.Test.YtncfilbpgomncaaDoorSlG
namespace Go.Proofs.YtncfilbpgomncaaDoor
set_option linter.unusedSimpArgs false
set_option linter.unusedVariables false
set_option maxRecDepth 100000
open Go.RowKit

/-- eight stores into one block -/
def put8 (w : World) (b : Nat) (v0 v1 v2 v3 v4 v5 v6 v7 : Value) : World := (((((((w.setCell ⟨b, 0, none⟩ v0).setCell ⟨b, 1, none⟩ v1).setCell ⟨b, 2, none⟩ v2).setCell ⟨b, 3, none⟩ v3).setCell ⟨b, 4, none⟩ v4).setCell ⟨b, 5, none⟩ v5).setCell ⟨b, 6, none⟩ v6).setCell ⟨b, 7, none⟩ v7
section
variable {w w0 : World} {b B : Nat} {v0 v1 v2 v3 v4 v5 v6 v7 : Value}
theorem put8_size : (put8 w b v0 v1 v2 v3 v4 v5 v6 v7).heap.size = w.heap.size := by simp [put8]
theorem put8_below (h : Below B w0 w) (hb : B ≤ b) : Below B w0 (put8 w b v0 v1 v2 v3 v4 v5 v6 v7) :=
  below_set (below_set (below_set (below_set (below_set (below_set (below_set (below_set h hb _ _) hb _ _) hb _ _) hb _ _) hb _ _) hb _ _) hb _ _) hb _ _
set_option maxHeartbeats 2000000 in
theorem put8_blk {u0 u1 u2 u3 u4 u5 u6 u7 : Value} (h : Blk w b #[u0, u1, u2, u3, u4, u5, u6, u7]) : Blk (put8 w b v0 v1 v2 v3 v4 v5 v6 v7) b #[v0, v1, v2, v3, v4, v5, v6, v7] := by
  have h1 : Blk _ b #[v0, u1, u2, u3, u4, u5, u6, u7] := h.set 0 v0 (by simp)
  have h2 : Blk _ b #[v0, v1, u2, u3, u4, u5, u6, u7] := h1.set 1 v1 (by simp)
  have h3 : Blk _ b #[v0, v1, v2, u3, u4, u5, u6, u7] := h2.set 2 v2 (by simp)
  have h4 : Blk _ b #[v0, v1, v2, v3, u4, u5, u6, u7] := h3.set 3 v3 (by simp)
  have h5 : Blk _ b #[v0, v1, v2, v3, v4, u5, u6, u7] := h4.set 4 v4 (by simp)
  have h6 : Blk _ b #[v0, v1, v2, v3, v4, v5, u6, u7] := h5.set 5 v5 (by simp)
  have h7 : Blk _ b #[v0, v1, v2, v3, v4, v5, v6, u7] := h6.set 6 v6 (by simp)
  have h8 : Blk _ b #[v0, v1, v2, v3, v4, v5, v6, v7] := h7.set 7 v7 (by simp)
  exact h8
theorem put8_far {g : Nat} {vs : Array Value} (h : Blk w g vs) (hne : b ≠ g) : Blk (put8 w b v0 v1 v2 v3 v4 v5 v6 v7) g vs :=
  (((((((h.far hne v0).far hne v1).far hne v2).far hne v3).far hne v4).far hne v5).far hne v6).far hne v7
theorem put8_ints {A : Option Addr} {l : List Int} (h : IntsAt w A .i64 l) (hne : ∀ b' off, l ≠ [] → A = some ⟨b', off, none⟩ → b' ≠ b) : IntsAt (put8 w b v0 v1 v2 v3 v4 v5 v6 v7) A .i64 l :=
  IntsAt.apart (IntsAt.apart (IntsAt.apart (IntsAt.apart (IntsAt.apart (IntsAt.apart (IntsAt.apart (IntsAt.apart h hne _ _) hne _ _) hne _ _) hne _ _) hne _ _) hne _ _) hne _ _) hne _ _
end
/-- a list that lies outside the two blocks behind w1 -/
def Apart (A : Option Addr) (l : List Int) (w1 : World) : Prop := ∀ b off, l ≠ [] → A = some ⟨b, off, none⟩ → b ≠ w1.heap.size ∧ b ≠ w1.heap.size + 1
theorem Prov.apart {w1 w w' : World} {A0 A : Option Addr} {l0 l : List Int} (h : Prov w w' A0 l0 A l) (h0 : Apart A0 l0 w1) (hw : w1.heap.size + 1 < w.heap.size) : Apart A l w1 := fun b off hl hA => by
  rcases h.2 with h3 | ⟨h3, h4⟩ | h3
  · exact absurd h3 hl
  · subst h3 h4; exact h0 b off hl hA
  · have := h3 b off hA
    omega
/-- what Write leaves in a round -/
def Mid (w1 w3 wx : World) (B9 : Nat) (x2 y2 : Slt) (X5 : Option Addr) (p5 : Nat) (Y5 : Option Addr) (q5 : Nat) : Prop :=
  Below w3.heap.size w3 wx ∧ w3.heap.size ≤ B9 ∧ Blk wx B9 #[.int .i64 x2.s, .int .i64 x2.c, .slice X5 x2.l.length p5, .int .u64 x2.u, .int .i64 y2.s, .int .i64 y2.c, .slice Y5 y2.l.length q5, .int .u64 y2.u] ∧ IntsAt wx X5 .i64 x2.l ∧ IntsAt wx Y5 .i64 y2.l ∧ Apart X5 x2.l w1 ∧ Apart Y5 y2.l w1
section
variable {w1 w3 wa w5 : World} {x2 y2 : Slt} {X5 Y5 X Y : Option Addr} {p5 q5 : Nat} {lx ly : List Int}
theorem mid_new {t : TypeId} (h13 : w1.heap.size + 1 < w3.heap.size) (ga : w3.heap.size ≤ wa.heap.size) (g5 : Below w3.heap.size w3 w5) (oX : Prov wa w5 X lx X5 x2.l) (oY : Prov wa w5 Y ly Y5 y2.l) (pX : Apart X lx w1) (pY : Apart Y ly w1) :
    Mid w1 w3 (w5.alloc (.cells #[.int .i64 x2.s, .int .i64 x2.c, .slice X5 x2.l.length p5, .int .u64 x2.u, .int .i64 y2.s, .int .i64 y2.c, .slice Y5 y2.l.length q5, .int .u64 y2.u] t)) w5.heap.size x2 y2 X5 p5 Y5 q5 :=
  ⟨g5.alloc g5.size _, g5.size, blk_new rfl, oX.1.alloc _, oY.1.alloc _, oX.apart pX (by omega), oY.apart pY (by omega)⟩
theorem mid_old {B9 : Nat} (h13 : w1.heap.size + 1 < w3.heap.size) (ga : w3.heap.size ≤ wa.heap.size) (g5 : Below w3.heap.size w3 w5) (oX : Prov wa w5 X lx X5 x2.l) (oY : Prov wa w5 Y ly Y5 y2.l) (pX : Apart X lx w1) (pY : Apart Y ly w1)
    (hX : IntsAt w3 X .i64 lx) (hY : IntsAt w3 Y .i64 ly) (h1 : w3.heap.size ≤ B9) (h2 : B9 < wa.heap.size) (z5 : Blk w5 B9 #[.int .i64 0, .int .i64 0, .slice none 0 0, .int .u64 0, .int .i64 0, .int .i64 0, .slice none 0 0, .int .u64 0]) :
    Mid w1 w3 (put8 w5 B9 (.int .i64 x2.s) (.int .i64 x2.c) (.slice X5 x2.l.length p5) (.int .u64 x2.u) (.int .i64 y2.s) (.int .i64 y2.c) (.slice Y5 y2.l.length q5) (.int .u64 y2.u)) B9 x2 y2 X5 p5 Y5 q5 :=
  ⟨put8_below g5 h1, h1, put8_blk z5, put8_ints oX.1 (oX.set hX h1 h2), put8_ints oY.1 (oY.set hY h1 h2), oX.apart pX (by omega), oY.apart pY (by omega)⟩
end
theorem blk_after {W w' : World} {b : Nat} {vs : Array Value} (hc : ∀ b o, b < W.heap.size → w'.cell? ⟨b, o, none⟩ = W.cell? ⟨b, o, none⟩) (hf : ∀ b o, b < W.heap.size → w'.frozen? ⟨b, o, none⟩ = W.frozen? ⟨b, o, none⟩) (hs : W.heap.size ≤ w'.heap.size) (h : Blk W b vs) : Blk w' b vs := fun o v hv => by
  have h1 := h o v hv
  exact ⟨Nat.lt_of_lt_of_le h1.lt hs, (hc _ _ h1.lt).trans h1.at, (hf _ _ h1.lt).trans h1.free⟩
end Go.Proofs.YtncfilbpgomncaaDoor

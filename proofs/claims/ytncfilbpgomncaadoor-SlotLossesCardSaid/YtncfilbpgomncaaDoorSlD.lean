/- Contracts of package slot: Write. -/
import Derived.Test.YtncfilbpgomncaaDoorSlC
import Derived.Deep.Cut
namespace Go.Proofs.YtncfilbpgomncaaDoor
set_option linter.unusedSimpArgs false
set_option linter.unusedVariables false
set_option maxRecDepth 100000
open Go.RowKit

/-- two slots and an error number -/
def SlotsErr (x y : Slt) (E : Int) (w : World) (e : Ending) (w' : World) : Prop :=
  ∃ A p B q, e = .returned (.tuple #[.agg #[.int .i64 x.s, .int .i64 x.c, .slice A x.l.length p, .int .u64 x.u, .int .i64 y.s, .int .i64 y.c, .slice B y.l.length q, .int .u64 y.u], .int .i64 E]) ∧ IntsAt w' A .i64 x.l ∧ IntsAt w' B .i64 y.l ∧ Below w.heap.size w w'
theorem slotsErr_zero {E : Int} {w w' : World} (hb : Below w.heap.size w w') : SlotsErr Slt.zero Slt.zero E w (.returned (.tuple #[.agg #[.int .i64 0, .int .i64 0, .slice none 0 0, .int .u64 0, .int .i64 0, .int .i64 0, .slice none 0 0, .int .u64 0], .int .i64 E])) w' := ⟨none, 0, none, 0, rfl, IntsAt.nil, IntsAt.nil, hb⟩

set_option maxHeartbeats 2000000 in
/-- what cannot be made is not written -/
theorem write_made (xs xc xu ys yc yu c at_ E : Int) (A : Option Addr) (n p : Nat) (B : Option Addr) (m q : Nat) (L : Option Addr) (k r : Nat) (w : World) (hE : (E != 0) = true)
    (hm : ∀ W, Below w.heap.size w W → Calls Tryd.prog 32 #[.int .i64 0, .int .i64 c, .slice L k r] W (SlotErr Slt.zero E W)) :
    Calls Tryd.prog 39 #[.agg #[.int .i64 xs, .int .i64 xc, .slice A n p, .int .u64 xu, .int .i64 ys, .int .i64 yc, .slice B m q, .int .u64 yu], .int .i64 c, .slice L k r, .int .i64 at_] w (SlotsErr Slt.zero Slt.zero E w) := by
  obtain ⟨w1, hw1⟩ : ∃ w1, (w.alloc (.cells #[.int .i64 xs, .int .i64 xc, .slice A n p, .int .u64 xu, .int .i64 ys, .int .i64 yc, .slice B m q, .int .u64 yu] 51)).alloc (.cells #[.int .i64 0, .int .i64 0, .slice none 0 0, .int .u64 0, .int .i64 0, .int .i64 0, .slice none 0 0, .int .u64 0] 51) = w1 := ⟨_, rfl⟩
  have b1 : Below w.heap.size w w1 := by rw [← hw1]; exact ((Below.refl _ _).alloc (Nat.le_refl _) _).alloc (by simp) _
  have q1 := hm w1 b1
  unfold SlotErr at q1
  rw [← hw1] at q1
  have H_hm := Lib.hid hm; clear hm; have H_b1 := Lib.hid b1; clear b1; have H_hw1 := Lib.hid hw1; clear hw1; have H_q1 := Lib.hid q1; clear q1
  go_enter Tryd.func39, Tryd.ntmps39
  go_wp2_with fail
  refine (H_q1.out).mono ?_; rintro e w2 ⟨X, cx, rfl, ho, hbw2⟩
  have hsw2 := hbw2.size; (try simp only [World.size_alloc, World.heap_drewN, World.size_setCell, heap_drew] at hsw2)
  have gw2 : Below w.heap.size w w2 := (by (repeat (first | with_reducible exact Below.refl _ _ | with_reducible exact Nat.le_refl _ | with_reducible assumption | with_reducible refine Below.drew ?_ | with_reducible refine below_drewN ?_ _ | with_reducible refine Below.alloc ?_ ?_ _ | with_reducible refine Below.setCell ?_ ?_ _ | with_reducible exact And.right (by assumption) | with_reducible refine Below.trans ?_ (Below.mono (by assumption) ?_) | with_reducible exact Below.size (And.right (by assumption)) | (focus omega) | (focus (simp; done)) | (focus (simp; omega)) | (focus (simp at *; omega)))))
  have kw2x0x0 := keepc hbw2 (b := w.heap.size + 1) (o := 0) (by first | omega | (simp; done) | (simp; omega)) (by go_simp; with_reducible rfl)
  have fw2x0x0 := keepf hbw2 (b := w.heap.size + 1) (o := 0) (by first | omega | (simp; done) | (simp; omega)) (by go_simp)
  have kw2x0x1 := keepc hbw2 (b := w.heap.size + 1) (o := 1) (by first | omega | (simp; done) | (simp; omega)) (by go_simp; with_reducible rfl)
  have fw2x0x1 := keepf hbw2 (b := w.heap.size + 1) (o := 1) (by first | omega | (simp; done) | (simp; omega)) (by go_simp)
  have kw2x0x2 := keepc hbw2 (b := w.heap.size + 1) (o := 2) (by first | omega | (simp; done) | (simp; omega)) (by go_simp; with_reducible rfl)
  have fw2x0x2 := keepf hbw2 (b := w.heap.size + 1) (o := 2) (by first | omega | (simp; done) | (simp; omega)) (by go_simp)
  have kw2x0x3 := keepc hbw2 (b := w.heap.size + 1) (o := 3) (by first | omega | (simp; done) | (simp; omega)) (by go_simp; with_reducible rfl)
  have fw2x0x3 := keepf hbw2 (b := w.heap.size + 1) (o := 3) (by first | omega | (simp; done) | (simp; omega)) (by go_simp)
  have kw2x0x4 := keepc hbw2 (b := w.heap.size + 1) (o := 4) (by first | omega | (simp; done) | (simp; omega)) (by go_simp; with_reducible rfl)
  have fw2x0x4 := keepf hbw2 (b := w.heap.size + 1) (o := 4) (by first | omega | (simp; done) | (simp; omega)) (by go_simp)
  have kw2x0x5 := keepc hbw2 (b := w.heap.size + 1) (o := 5) (by first | omega | (simp; done) | (simp; omega)) (by go_simp; with_reducible rfl)
  have fw2x0x5 := keepf hbw2 (b := w.heap.size + 1) (o := 5) (by first | omega | (simp; done) | (simp; omega)) (by go_simp)
  have kw2x0x6 := keepc hbw2 (b := w.heap.size + 1) (o := 6) (by first | omega | (simp; done) | (simp; omega)) (by go_simp; with_reducible rfl)
  have fw2x0x6 := keepf hbw2 (b := w.heap.size + 1) (o := 6) (by first | omega | (simp; done) | (simp; omega)) (by go_simp)
  have kw2x0x7 := keepc hbw2 (b := w.heap.size + 1) (o := 7) (by first | omega | (simp; done) | (simp; omega)) (by go_simp; with_reducible rfl)
  have fw2x0x7 := keepf hbw2 (b := w.heap.size + 1) (o := 7) (by first | omega | (simp; done) | (simp; omega)) (by go_simp)
  have zw2x0 : w.heap.size + 1 < w2.heap.size := by omega
  have H_hbw2 := Lib.hid hbw2; clear hbw2
  go_wp2_with fail
  refine bodyPost_ret (v := .tuple #[.agg #[.int .i64 0, .int .i64 0, .slice none 0 0, .int .u64 0, .int .i64 0, .int .i64 0, .slice none 0 0, .int .u64 0], .int .i64 E]) (by simp [results, Tryd.results39, go_sem, *]) rfl (slotsErr_zero (by (repeat (first | with_reducible exact Below.refl _ _ | with_reducible exact Nat.le_refl _ | with_reducible assumption | with_reducible refine Below.drew ?_ | with_reducible refine below_drewN ?_ _ | with_reducible refine Below.alloc ?_ ?_ _ | with_reducible refine Below.setCell ?_ ?_ _ | with_reducible exact And.right (by assumption) | with_reducible refine Below.trans ?_ (Below.mono (by assumption) ?_) | with_reducible exact Below.size (And.right (by assumption)) | (focus omega) | (focus (simp; done)) | (focus (simp; omega)) | (focus (simp at *; omega))))))
/-- a list that lies in the blocks from lo to before hi -/
def Seg (w : World) (lo hi : Nat) (A : Option Addr) (l : List Int) : Prop :=
  ∀ i, i < l.length → ∃ b off, A = some ⟨b, off, none⟩ ∧ lo ≤ b ∧ b < hi ∧ b < w.heap.size ∧ w.cell? ⟨b, off + i, none⟩ = some (.int .i64 (l.getD i 0))
section
variable {w w' : World} {lo hi : Nat} {A : Option Addr} {l : List Int}
theorem Seg.ints (h : Seg w lo hi A l) : IntsAt w A .i64 l := fun i hi' => by
  obtain ⟨b, off, e, _, _, h1, h2⟩ := h i hi'; exact ⟨b, off, e, h1, h2⟩
theorem seg_ints (h : IntsAt w A .i64 l) : Seg w 0 w.heap.size A l := fun i hi' => by
  obtain ⟨b, off, e, h1, h2⟩ := h i hi'; exact ⟨b, off, e, Nat.zero_le _, h1, h1, h2⟩
theorem seg_own {E : TypeId} {c : Nat} (h : OwnInts w lo E .i64 A c l) : Seg w lo w.heap.size A l := fun i hi' => by
  obtain ⟨b, off, e, h1, h2⟩ := h.ints i hi'
  subst e
  exact ⟨b, off, rfl, (h.lt b rfl).1, h1, h1, h2⟩
theorem Seg.below (h : Seg w lo hi A l) (hb : Below w.heap.size w w') : Seg w' lo hi A l := fun i hi' => by
  obtain ⟨b, off, e, h0, h1, h2, h3⟩ := h i hi'; exact ⟨b, off, e, h0, h1, Nat.lt_of_lt_of_le h2 hb.size, (hb.cell (p := ⟨b, off + i, none⟩) h2).trans h3⟩
theorem Seg.alloc (h : Seg w lo hi A l) (o : Obj) : Seg (w.alloc o) lo hi A l := h.below ((Below.refl _ _).alloc (Nat.le_refl _) o)
theorem Seg.drew (h : Seg w lo hi A l) : Seg w.drew lo hi A l := h
theorem Seg.set (h : Seg w lo hi A l) {p : Addr} (hp : p.block < lo ∨ hi ≤ p.block) (v : Value) : Seg (w.setCell p v) lo hi A l := fun i hi' => by
  obtain ⟨b, off, e, h0, h1, h2, h3⟩ := h i hi'
  refine ⟨b, off, e, h0, h1, by simpa using h2, ?_⟩
  rw [World.cell?_setCell_other w p ⟨b, off + i, none⟩ v (fun e => by subst e; simp at hp; omega)]; exact h3
end

theorem nameC {W w : World} (h : W = w) {b o : Nat} {v : Value} (hc : W.cell? ⟨b, o, none⟩ = some v) : w.cell? ⟨b, o, none⟩ = some v := h ▸ hc
theorem nameF {W w : World} (h : W = w) {b o : Nat} (hc : W.frozen? ⟨b, o, none⟩ = false) : w.frozen? ⟨b, o, none⟩ = false := h ▸ hc
theorem wr_eq0 {x y : Slt} {c at_ : Int} {l : List Int} (h : wrE x y c l at_ = 0) : (wr0 x y c l at_ = if into0 x y = true ∧ at_ ≠ 0 then wrS x y c l at_ else x) ∧ (wr1 x y c l at_ = if into0 x y = false ∧ at_ ≠ 0 then wrS x y c l at_ else y) := ⟨by rw [wr0, if_pos h], by rw [wr1, if_pos h]⟩
end Go.Proofs.YtncfilbpgomncaaDoor

/- Contracts of package card: wrong, message, ContainsFunc. -/
import Derived.Test.YtoehobaigfmnpaaDoorMr26
namespace Go.Proofs.YtoehobaigfmnpaaDoor
set_option linter.unusedSimpArgs false
set_option linter.unusedVariables false
set_option maxRecDepth 100000
open Go.RowKit Go.Maps
theorem cwrong_any (c : Crd) (hc : CFit c) (w : World) : Calls Tryd.prog 36 #[.agg c.cells.toArray] w fun e w' => e = .returned (.bool (!cvB c)) ∧ Below w.heap.size w w' := by
  have b1 : Below w.heap.size w (w.alloc (.cells c.cells.toArray 31)) := (Below.refl _ _).alloc (Nat.le_refl _) _
  have q := cvalid_any c hc (w.alloc (.cells c.cells.toArray 31))
  generalize cvB c = R at *
  unfold Crd.cells at q b1 ⊢
  have H_q := Lib.hid q; clear q; have H_b1 := Lib.hid b1; clear b1; have H_hc := Lib.hid hc; clear hc
  go_enter Tryd.func36, Tryd.ntmps36
  go_wp2_with fail
  refine H_q.out.mono ?_
  rintro e w2 ⟨rfl, b2⟩
  have bb := H_b1.out.trans (b2.mono (by simp))
  have H_b2 := Lib.hid b2; clear b2; have H_bb := Lib.hid bb; clear bb
  go_wp2_with fail
  go_ret
  exact ⟨rfl, H_bb.out⟩

/-- the seven numbers that are signed -/
def Crd.msg (c : Crd) : List Int := [c.i, c.k, c.d, c.n, c.f, c.u, c.l]
theorem CFit.msg {c : Crd} (h : CFit c) : Fit c.msg := by
  intro x hx
  simp only [Crd.msg, List.mem_cons, List.not_mem_nil, or_false] at hx
  rcases hx with rfl | rfl | rfl | rfl | rfl | rfl | rfl
  · exact h.i
  · exact h.k
  · exact h.d
  · exact h.n
  · exact h.f
  · exact h.u
  · exact h.l
def NewInts7 (l : List Int) (w : World) (e : Ending) (w' : World) : Prop := ∃ b, e = .returned (.slice (some ⟨b, 0, none⟩) 7 7) ∧ IntsAt w' (some ⟨b, 0, none⟩) .i64 l ∧ w.heap.size ≤ b ∧ Below w.heap.size w w'
set_option maxHeartbeats 1000000 in
theorem cmessage_any (c : Crd) (w : World) : Calls Tryd.prog 40 #[.agg c.cells.toArray] w (NewInts7 c.msg w) := by
  unfold Crd.cells Crd.msg
  go_enter Tryd.func40, Tryd.ntmps40
  go_wp2_with fail
  go_ret
  refine ⟨w.heap.size + 1, rfl, ?_, by omega, ((Below.refl _ _).alloc (Nat.le_refl _) _).alloc (by simp) _⟩
  exact ints_lit (w := w.alloc _) (E := 3) [c.i, c.k, c.d, c.n, c.f, c.u, c.l] _ (by simp)

/-- a card in its nine cells -/
def CdAt (_ : World) (cs : List Value) (c : Crd) : Prop := cs = c.cells ∧ CFit c
/-- a slice of cards -/
def Cards (w : World) (A : Option Addr) (l : List Crd) : Prop := RowsAt 9 CdAt w A l
theorem Cards.below {w w' : World} {A : Option Addr} {l : List Crd} (h : Cards w A l) (hb : Below w.heap.size w w') : Cards w' A l := RowsAt.below h (fun _ _ h => h) hb
/-- the nine cells of one -/
theorem Cards.at {w : World} {A : Option Addr} {l : List Crd} (h : Cards w A l) {i : Nat} {c : Crd} (hi : l[i]? = some c) : ∃ b off, A = some ⟨b, off, none⟩ ∧ b < w.heap.size ∧ CFit c ∧
    w.cell? ⟨b, off + i * 9, none⟩ = some (.int .i64 c.i) ∧ w.cell? ⟨b, off + i * 9 + 1, none⟩ = some (.int .i64 c.k) ∧ w.cell? ⟨b, off + i * 9 + 2, none⟩ = some (.int .i64 c.d) ∧ w.cell? ⟨b, off + i * 9 + 3, none⟩ = some (.int .i64 c.n) ∧ w.cell? ⟨b, off + i * 9 + 4, none⟩ = some (.int .i64 c.f) ∧
    w.cell? ⟨b, off + i * 9 + 5, none⟩ = some (.int .i64 c.u) ∧ w.cell? ⟨b, off + i * 9 + 6, none⟩ = some (.int .i64 c.l) ∧ w.cell? ⟨b, off + i * 9 + 7, none⟩ = some (.int .i64 c.e) ∧ w.cell? ⟨b, off + i * 9 + 8, none⟩ = some (.int .i64 c.s) := by
  obtain ⟨b, off, cs, e, hlt, hl, hc, rfl, hf⟩ := h i c hi
  refine ⟨b, off, e, hlt, hf, ?_, ?_, ?_, ?_, ?_, ?_, ?_, ?_, ?_⟩
  · exact hc 0 (by omega)
  all_goals (rw [Nat.add_assoc])
  · exact hc 1 (by omega)
  · exact hc 2 (by omega)
  · exact hc 3 (by omega)
  · exact hc 4 (by omega)
  · exact hc 5 (by omega)
  · exact hc 6 (by omega)
  · exact hc 7 (by omega)
  · exact hc 8 (by omega)

end Go.Proofs.YtoehobaigfmnpaaDoor

/- Contracts of package slot: Write where it may, and where its lists lie. -/
import Derived.Test.YtoehobaigfmnpaaDoorMr16
namespace Go.Proofs.YtoehobaigfmnpaaDoor
set_option linter.unusedSimpArgs false
set_option linter.unusedVariables false
set_option maxRecDepth 100000
open Go.RowKit
/-- a list that lies where an argument's list lay, or in new memory -/
def Prov (w w' : World) (A0 : Option Addr) (l0 : List Int) (A : Option Addr) (l : List Int) : Prop := IntsAt w' A .i64 l ∧ (l = [] ∨ (A = A0 ∧ l = l0) ∨ ∀ b off, A = some ⟨b, off, none⟩ → w.heap.size ≤ b)
theorem prov_old {w w' : World} {A : Option Addr} {l : List Int} (h : IntsAt w' A .i64 l) : Prov w w' A l A l := ⟨h, .inr (.inl ⟨rfl, rfl⟩)⟩
theorem prov_new {w w' : World} {lo hi : Nat} {A0 A : Option Addr} {l0 l : List Int} (h : Seg w' lo hi A l) (hw : w.heap.size ≤ lo) : Prov w w' A0 l0 A l := by
  refine ⟨h.ints, ?_⟩
  rcases Nat.eq_zero_or_pos l.length with h0 | h0
  · exact .inl (List.eq_nil_of_length_eq_zero h0)
  · refine .inr (.inr fun b off e => ?_)
    obtain ⟨b', off', e', h1, _⟩ := h 0 h0
    rw [e] at e'
    injection e' with e'
    injection e' with e1 _
    omega
/-- two slots and an error number, the lists' places known -/
def SlotsErr2 (A0 : Option Addr) (l0 : List Int) (B0 : Option Addr) (m0 : List Int) (x y : Slt) (E : Int) (w : World) (e : Ending) (w' : World) : Prop :=
  ∃ A p B q, e = .returned (.tuple #[.agg #[.int .i64 x.s, .int .i64 x.c, .slice A x.l.length p, .int .u64 x.u, .int .i64 y.s, .int .i64 y.c, .slice B y.l.length q, .int .u64 y.u], .int .i64 E]) ∧ Prov w w' A0 l0 A x.l ∧ Prov w w' B0 m0 B y.l ∧ Below w.heap.size w w'
/-- such a list does not lie in a block that is neither older than the argument's world nor new -/
theorem Prov.set {w0 w w' : World} {A0 A : Option Addr} {l0 l : List Int} (h : Prov w w' A0 l0 A l) (h0 : IntsAt w0 A0 .i64 l0) {b : Nat} (h1 : w0.heap.size ≤ b) (h2 : b < w.heap.size) : ∀ b' off, l ≠ [] → A = some ⟨b', off, none⟩ → b' ≠ b := fun b' off hl hA => by
  rcases h.2 with h3 | ⟨h3, h4⟩ | h3
  · exact absurd h3 hl
  · subst h3 h4
    have hlen : 0 < l.length := by
      cases l with
      | nil => exact absurd rfl hl
      | cons x r => simp
    obtain ⟨b2, o2, e, h5, _⟩ := h0 0 hlen
    rw [hA] at e
    injection e with e
    injection e with e1 _
    omega
  · have := h3 b' off hA
    omega
end Go.Proofs.YtoehobaigfmnpaaDoor

/- Slices of structs that came in: any element of fixed cells whose reading is known. -/
import Derived.Deep.Slices
import Derived.Test.YtmbmejclnagffaaDoorM15
set_option linter.unusedSimpArgs false
set_option linter.unusedVariables false
set_option maxRecDepth 100000
namespace Go.Proofs.YtmbmejclnagffaaDoor
open Go.RowKit
section
open Go.RowKit Go.ChangeShapes Go.WideShapes Go.ChangeAt
/-- the slice over A holds the elements l, each in C cells that read by At -/
def RowsAt {α : Type} (C : Nat) (At : World → List Value → α → Prop) (w : World) (A : Option Addr) (l : List α) : Prop :=
  ∀ i z, l[i]? = some z → ∃ b off cs, A = some ⟨b, off, none⟩ ∧ b < w.heap.size ∧ cs.length = C ∧ (∀ j, j < C → w.cell? ⟨b, off + (i * C + j), none⟩ = cs[j]?) ∧ At w cs z
theorem RowsAt.below {α : Type} {C : Nat} {At : World → List Value → α → Prop} {w w' : World} {A : Option Addr} {l : List α} (h : RowsAt C At w A l) (hmono : ∀ cs z, At w cs z → At w' cs z) (hb : Below w.heap.size w w') : RowsAt C At w' A l := fun i z hz => by
  obtain ⟨b, off, cs, e, hlt, hl, hc, ha⟩ := h i z hz
  exact ⟨b, off, cs, e, Nat.lt_of_lt_of_le hlt hb.size, hl, fun j hj => (hb.cell (p := ⟨b, off + (i * C + j), none⟩) hlt).trans (hc j hj), hmono cs z ha⟩
theorem RowsAt.nil {α : Type} {C : Nat} {At : World → List Value → α → Prop} {w : World} {A : Option Addr} : RowsAt C At w A ([] : List α) := fun i z h => by simp at h
theorem list_of {α : Type} {Q : Nat → α → Prop} : ∀ n, (∀ i, i < n → ∃ z, Q i z) → ∃ l : List α, l.length = n ∧ ∀ i z, l[i]? = some z → Q i z
  | 0, _ => ⟨[], rfl, fun i z h => by simp at h⟩
  | n + 1, h => by
    obtain ⟨l, hl, hq⟩ := list_of n (fun i hi => h i (by omega))
    obtain ⟨z, hz⟩ := h n (by omega)
    refine ⟨l ++ [z], by simp [hl], fun i y hy => ?_⟩
    rcases Nat.lt_or_ge i l.length with h1 | h1
    · rw [List.getElem?_append_left h1] at hy; exact hq i y hy
    · rw [List.getElem?_append_right h1] at hy
      have h0 : i - l.length = 0 := by
        rcases Nat.eq_zero_or_pos (i - l.length) with h2 | h2
        · exact h2
        · rw [List.getElem?_eq_none (by simp; omega)] at hy; cases hy
      rw [h0] at hy
      have : i = n := by omega
      subst this
      have : z = y := by simpa using hy
      rw [← this]; exact hz
theorem addr_add_add {a : Addr} {w : World} {v : Value} {i j : Nat} (h : w.cell? ((a.add i).add j) = some v) (h0 : a.spot = none) : w.cell? ⟨a.block, a.off + (i + j), none⟩ = some v := by
  rw [Go.Deep.add_add] at h
  exact addr_add h h0
theorem read_rows {H : Type} {enc : TypeId × Value → H} {P : Program} {W : World} {held : Bool} {t e : TypeId} {v : Value} {fuel : Nat} {y : DataW H × List MemPlace} {α : Type} {C : Nat} {At : World → List Value → α → Prop} (hC0 : 0 < C) (ht : P.underlying t = some (.slice e)) (hC : P.cellsOf e = C)
    (rd : ∀ (fuel : Nat) (cs : List Value) (x : DataW H × List MemPlace), cs.length = C → DataW.trod enc P W 0 (fun _ => true) held fuel e cs = some x → ∃ z, At W cs z)
    (hf : DataW.trod enc P W 0 (fun _ => true) held fuel t [v] = some y) : ∃ A c l, v = .slice A l.length c ∧ RowsAt C At W A l ∧ l.length ≤ c ∧ c ≤ maxLen := by
  rcases Go.Deep.open_slice ht hf with ⟨hcs, _⟩ | ⟨a, len, cap, m, n, D, Pl, hcs, _, hle, hmax, hm, _, hel⟩
  · have : v = .slice none 0 0 := by simpa using hcs
    subst this
    exact ⟨none, 0, [], rfl, RowsAt.nil, by simp, by simp⟩
  · have : v = .slice (some a) len cap := by simpa using hcs
    subst this
    simp only [if_true] at hm
    rw [hC] at hel
    obtain ⟨l, hl, hq⟩ := list_of (Q := fun i z => ∃ b off cs, some a = some ⟨b, off, none⟩ ∧ b < W.heap.size ∧ cs.length = C ∧ (∀ j, j < C → W.cell? ⟨b, off + (i * C + j), none⟩ = cs[j]?) ∧ At W cs z) len (fun i hi => by
      obtain ⟨cs, hc, htr⟩ := hel i (by omega)
      obtain ⟨_, hcl, hat⟩ := World.cells?_some hc
      obtain ⟨z, hz⟩ := rd n cs _ hcl htr
      obtain ⟨cs0, hc0, _⟩ := hel 0 (by omega)
      obtain ⟨_, hcl0, hat0⟩ := World.cells?_some hc0
      have h00 := hat0 0 hC0
      rw [List.getElem?_eq_getElem (by omega)] at h00
      have h01 : W.cell? a = some (cs0[0]'(by omega)) := by simpa [Addr.add] using h00
      have hs := World.cell?_spot h01
      refine ⟨z, a.block, a.off, cs, by obtain ⟨b, o, s⟩ := a; simp at hs; subst hs; rfl, cell_lt h01, hcl, fun j hj => ?_, hz⟩
      have hj2 := hat j hj
      rw [List.getElem?_eq_getElem (by omega)] at hj2 ⊢
      exact addr_add_add hj2 hs)
    subst hl
    exact ⟨some a, cap, l, rfl, fun i z hz => hq i z hz, hle, hmax⟩
end
end Go.Proofs.YtmbmejclnagffaaDoor

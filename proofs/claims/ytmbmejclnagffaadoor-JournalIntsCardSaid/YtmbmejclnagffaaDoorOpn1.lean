/- Opening arguments: slices of integers. -/
import Derived.Test.YtmbmejclnagffaaDoorMem
import Derived.ProofKit
import Derived.OpenShut
import Derived.ChangeOld
import Derived.Deep.Matrix
import Derived.DataShut
import Derived.SizedLaws
namespace Go.Proofs.YtmbmejclnagffaaDoor
set_option linter.unusedSimpArgs false
set_option linter.unusedVariables false
set_option maxRecDepth 100000
open Go.RowKit Go.ChangeShapes Go.WideShapes Go.ChangeAt

theorem addr_add {a : Addr} {w : World} {v : Value} {i : Nat} (h : w.cell? (a.add i) = some v) (h0 : a.spot = none) : w.cell? ⟨a.block, a.off + i, none⟩ = some v := by
  rw [← h]
  unfold Addr.add
  split
  · rename_i h1; subst h1; obtain ⟨b, o, s⟩ := a; simp at h0; subst h0; rfl
  · rfl
theorem cell_lt {w : World} {a : Addr} {v : Value} (h : w.cell? a = some v) : a.block < w.heap.size := by
  unfold World.cell? at h
  rcases Nat.lt_or_ge a.block w.heap.size with h1 | h1
  · exact h1
  · rw [Array.getElem?_eq_none h1] at h; cases h
theorem ints_of_cells {w : World} {a : Addr} {k : IntKind} {l : List Int} (h : ∀ i, i < l.length → w.cell? (a.add i) = some (.int k (l.getD i 0))) : IntsAt w (some a) k l := fun i hi => by
  have h0 : w.cell? a = some (.int k (l.getD 0 0)) := h 0 (by omega)
  have hs := World.cell?_spot h0
  exact ⟨a.block, a.off, by obtain ⟨b, o, s⟩ := a; simp at hs; subst hs; rfl, cell_lt h0, addr_add (h i hi) hs⟩

theorem open_ints_at {H : Type} {enc : TypeId × Value → H} {P : Program} {W : World} {base : Nat} {held : Bool} {t e : TypeId} {k : IntKind} {v : Value} {d : DataW H} {p : List MemPlace} (ht : P.underlying t = some (.slice e)) (he : P.underlying e = some (.int k)) (hc : P.cellsOf e = 1)
    (hv : Value.okWide P W .any base t v) (h : DataW.Trod enc P W 0 (fun _ => true) held t v d p) :
    ∃ A c l, v = .slice A l.length c ∧ IntsAt W A k l ∧ l.length ≤ c ∧ c ≤ maxLen ∧ ∀ n ∈ l, (Lit.int k n).wf = true := by
  obtain ⟨a0, len, cap, rfl⟩ := okWide_slice ht hv
  obtain ⟨fuel, hf⟩ := h
  rcases open_ints ht he hc hf with ⟨hcs, _⟩ | ⟨a, len', cap', zs, hcs, _, hle, hmax, hall, _, hcell, hwf⟩
  · simp [Value.cells] at hcs
    obtain ⟨rfl, rfl, rfl⟩ := hcs
    exact ⟨none, 0, [], rfl, IntsAt.nil, by simp, by simp, by simp⟩
  · simp [Value.cells] at hcs
    obtain ⟨rfl, rfl, rfl⟩ := hcs
    simp only [if_true] at hall
    refine ⟨some a, cap, zs.take len, ?_, ?_, ?_, hmax, fun n hn => hwf n (List.mem_of_mem_take hn)⟩
    · congr 1; simp; omega
    · exact IntsAt.take (ints_of_cells hcell) len
    · simp; omega

theorem reach_ints {H : Type} {enc : TypeId × Value → H} {P : Program} {W : World} {base : Nat} {held : Bool} {t e : TypeId} {k : IntKind} {v : Value} {d : DataW H} {p : List MemPlace} {ts : List TypeId} {ds : List (DataW H)} {j bytes : Nat} (ht : P.underlying t = some (.slice e)) (he : P.underlying e = some (.int k)) (hc : P.cellsOf e = 1) (hby : P.bytesOf e = bytes)
    (hw : (DataW.weightsEach P ts ds).all (· ≤ reachBytes) = true) (hts : ts[j]? = some t) (hds : ds[j]? = some d) (h : DataW.Trod enc P W 0 (fun _ => true) held t v d p) (hv : Value.okWide P W .any base t v) : ∀ A n c, v = .slice A n c → n * bytes ≤ 140737488355328 := fun A n c hvs => by
  subst hvs
  obtain ⟨fuel, hf⟩ := h
  rcases open_ints ht he hc hf with ⟨hcs, _⟩ | ⟨a, len', cap', zs, hcs, _, hle, hmax, hall, hx, _⟩
  · simp [Value.cells] at hcs
    rw [hcs.2.1]; omega
  · simp [Value.cells] at hcs
    obtain ⟨rfl, rfl, rfl⟩ := hcs
    injection hx with hx _
    have := sized_slice hw hts (hds.trans (by rw [hx])) ht
    have h2 := reachBytes_lt
    rw [hby] at this
    simp only [lits, List.length_map, List.length_take, List.length_drop] at this
    simp only [if_true] at hall
    rw [hall] at this
    have h3 : n * bytes ≤ (min n c + (c - n)) * bytes := Nat.mul_le_mul_right _ (by omega)
    omega
theorem wf_i64 {n : Int} (h : (Lit.int .i64 n).wf = true) : -9223372036854775808 ≤ n ∧ n ≤ 9223372036854775807 := by
  rw [Lit.wf_int_iff] at h; exact h
theorem wf_u8 {n : Int} (h : (Lit.int .u8 n).wf = true) : 0 ≤ n ∧ n ≤ 255 := by
  rw [Lit.wf_int_iff] at h; exact h
theorem wf_u16 {n : Int} (h : (Lit.int .u16 n).wf = true) : 0 ≤ n ∧ n ≤ 65535 := by
  rw [Lit.wf_int_iff] at h; exact h
theorem wf_u64 {n : Int} (h : (Lit.int .u64 n).wf = true) : 0 ≤ n ∧ n ≤ 18446744073709551615 := by
  rw [Lit.wf_int_iff] at h; exact h
end Go.Proofs.YtmbmejclnagffaaDoor

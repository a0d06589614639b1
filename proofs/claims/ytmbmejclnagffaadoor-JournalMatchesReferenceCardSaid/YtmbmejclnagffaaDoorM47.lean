/- Opening arguments: entries. -/
import Derived.Test.YtmbmejclnagffaaDoorM15
import Derived.Test.YtmbmejclnagffaaDoorM43
set_option linter.unusedSimpArgs false
set_option linter.unusedVariables false
set_option maxRecDepth 100000
namespace Go.Proofs.YtmbmejclnagffaaDoor
open Go.RowKit
section
open Go.RowKit Go.ChangeShapes Go.WideShapes Go.ChangeAt
theorem read_ent {H : Type} {enc : TypeId × Value → H} {W : World} {held : Bool} (fuel : Nat) (cs : List Value) (x : DataW H × List MemPlace) (hl : cs.length = 3) (h : DataW.trod enc Tryd.prog W 0 (fun _ => true) held fuel 39 cs = some x) : ∃ z, EntAt W cs z := by
  obtain ⟨xs, n, _, _, _, hlen, hg⟩ := DataW.trod_struct Tryd.underlying39 h
  have hx : xs.length = 3 := hlen
  match xs, hx, cs, hl with
  | [y0, y1, y2], _, [c0, c1, c2], _ =>
    have e1 : Tryd.prog.cellsOf 36 = 1 := by kernel_rfl
    have e2 : Tryd.prog.cellsOf 5 = 1 := by kernel_rfl
    have e3 : Tryd.prog.cellsOf 37 = 1 := by kernel_rfl
    have g0 := hg 0 _ rfl
    have g1 := hg 1 _ rfl
    have g2 := hg 2 _ rfl
    simp [e1, e2, e3] at g0 g1 g2
    obtain ⟨t, rfl, wt⟩ := read_int Tryd.underlying36 g0
    obtain ⟨k, rfl, wk⟩ := read_int Tryd.underlying5 g1
    obtain ⟨A, cap, l, rfl, hi, hc, hm, hw⟩ := read_ints Tryd.underlying37 Tryd.underlying36 (by kernel_rfl) g2
    unfold maxLen at hm
    exact ⟨⟨t, k, A, cap, l⟩, rfl, ⟨wf_u16 wt, wf_u8 wk, by show l.length ≤ _; omega, fun v hv => wf_u16 (hw v hv)⟩, hc, hi⟩
/-- entries that came in -/
structure EntsArg (w : World) (A : Option Addr) (c : Nat) (l : List Ent) : Prop where
  at_ : Ents w A l
  room : l.length ≤ c
  reach : l.length ≤ 140737488355328
theorem open_ents {H : Type} {enc : TypeId × Value → H} {W : World} {base : Nat} {held : Bool} {v : Value} {d : DataW H} {p : List MemPlace} {ts : List TypeId} {ds : List (DataW H)} {j : Nat} (hw : (DataW.weightsEach Tryd.prog ts ds).all (· ≤ reachBytes) = true) (hts : ts[j]? = some 22) (hds : ds[j]? = some d)
    (hv : Value.okWide Tryd.prog W .any base 22 v) (h : DataW.Trod enc Tryd.prog W 0 (fun _ => true) held 22 v d p) :
    ∃ A c l, v = .slice A l.length c ∧ EntsArg W A c l := by
  obtain ⟨a0, len, cap, rfl⟩ := okWide_slice Tryd.underlying22 hv
  obtain ⟨fuel, hf⟩ := h
  obtain ⟨A, c, l, e, hr, hc, hm⟩ := read_rows (by decide) Tryd.underlying22 (by kernel_rfl) read_ent hf
  refine ⟨A, c, l, e, hr, hc, ?_⟩
  rcases Go.Deep.open_slice Tryd.underlying22 hf with ⟨hcs, _⟩ | ⟨a, len', cap', m, n, D, Pl, hcs, _, hle, _, hm', hx, _⟩
  · have : Value.slice a0 len cap = .slice none 0 0 := by simpa [Value.cells] using hcs
    rw [this] at e; injection e with _ e1 _; omega
  · have : Value.slice a0 len cap = .slice (some a) len' cap' := by simpa [Value.cells] using hcs
    rw [this] at e; injection e with _ e1 _
    injection hx with hx _
    have := sized_slice hw hts (hds.trans (by rw [hx])) Tryd.underlying22
    have h2 := reachBytes_lt
    rw [show Tryd.prog.bytesOf 39 = 32 from by kernel_rfl] at this
    simp only [List.length_map, List.length_range, if_true] at this hm'
    rw [hm'] at this
    omega
end
end Go.Proofs.YtmbmejclnagffaaDoor

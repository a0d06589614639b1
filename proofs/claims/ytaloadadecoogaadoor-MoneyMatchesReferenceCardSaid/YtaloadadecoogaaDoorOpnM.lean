/- Opening arguments: exchanges, slices of exchanges. -/
import Derived.Test.YtaloadadecoogaaDoorMnG
import Derived.Test.YtaloadadecoogaaDoorOpn2
namespace Go.Proofs.YtaloadadecoogaaDoor
set_option linter.unusedSimpArgs false
set_option linter.unusedVariables false
set_option maxRecDepth 100000
open Go.RowKit Go.ChangeShapes Go.WideShapes Go.ChangeAt

theorem read_exc {H : Type} {enc : TypeId × Value → H} {W : World} {held : Bool} (fuel : Nat) (cs : List Value) (x : DataW H × List MemPlace) (hl : cs.length = 4) (h : DataW.trod enc Tryd.prog W 0 (fun _ => true) held fuel 53 cs = some x) : ∃ z, ExAt W cs z := by
  obtain ⟨xs, n, _, _, _, hlen, hg⟩ := DataW.trod_struct Tryd.underlying53 h
  have hx : xs.length = 3 := hlen
  match xs, hx, cs, hl with
  | [y0, y1, y2], _, [c0, c1, c2, c3], _ =>
    have e1 : Tryd.prog.cellsOf 3 = 1 := by kernel_rfl
    have e2 : Tryd.prog.cellsOf 40 = 2 := by kernel_rfl
    have g0 := hg 0 _ rfl
    have g1 := hg 1 _ rfl
    have g2 := hg 2 _ rfl
    simp [e1, e2] at g0 g1 g2
    obtain ⟨a0, rfl, w0⟩ := read_int Tryd.underlying3 g0
    obtain ⟨a1, rfl, w1⟩ := read_int Tryd.underlying3 g1
    obtain ⟨zs, n2, _, _, _, hlen2, hg2⟩ := DataW.trod_struct Tryd.underlying40 g2
    have hz : zs.length = 2 := hlen2
    match zs, hz with
    | [z0, z1], _ =>
      have k0 := hg2 0 _ rfl
      have k1 := hg2 1 _ rfl
      simp [e1] at k0 k1
      obtain ⟨a2, rfl, w2⟩ := read_int Tryd.underlying3 k0
      obtain ⟨a3, rfl, w3⟩ := read_int Tryd.underlying3 k1
      exact ⟨⟨a0, a1, a2, a3⟩, rfl, ⟨w0, w1, w2, w3⟩⟩
theorem open_excs {H : Type} {enc : TypeId × Value → H} {W : World} {base : Nat} {held : Bool} {v : Value} {d : DataW H} {p : List MemPlace} (hv : Value.okWide Tryd.prog W .any base 22 v) (h : DataW.Trod enc Tryd.prog W 0 (fun _ => true) held 22 v d p) :
    ∃ A c l, v = .slice A l.length c ∧ Excs W A l ∧ l.length ≤ c ∧ c ≤ maxLen := by
  obtain ⟨a0, len, cap, rfl⟩ := okWide_slice Tryd.underlying22 hv
  obtain ⟨fuel, hf⟩ := h
  exact read_rows (by decide) Tryd.underlying22 (by kernel_rfl) read_exc hf
end Go.Proofs.YtaloadadecoogaaDoor

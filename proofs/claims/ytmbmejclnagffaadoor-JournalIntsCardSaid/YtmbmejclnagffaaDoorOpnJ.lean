/- Opening arguments: messages. -/
import Derived.Test.YtmbmejclnagffaaDoorJoN
import Derived.Test.YtmbmejclnagffaaDoorOpn2
import Derived.Lib.SmallJoins
namespace Go.Proofs.YtmbmejclnagffaaDoor
set_option linter.unusedSimpArgs false
set_option linter.unusedVariables false
set_option maxRecDepth 100000
open Go.RowKit Go.ChangeShapes Go.WideShapes Go.ChangeAt

/-- a message that came in -/
structure MsgArg (w : World) (z : Msg) : Prop where
  fit : MFit z
  room : z.a.length ≤ z.c
  max : z.c ≤ 9223372036854775807
  ints : IntsAt w z.A .i64 z.a
  fits : Fit z.a
theorem read_msg {H : Type} {enc : TypeId × Value → H} {W : World} {held : Bool} {fuel : Nat} {c0 c1 c2 c3 c4 : Value} {x : DataW H × List MemPlace} (h : DataW.trod enc Tryd.prog W 0 (fun _ => true) held fuel 47 [c0, c1, c2, c3, c4] = some x) :
    ∃ z : Msg, c0 = .int .i64 z.p ∧ c1 = .int .i64 z.s ∧ c2 = .int .i64 z.t ∧ c3 = .int .i64 z.k ∧ c4 = .slice z.A z.a.length z.c ∧ MsgArg W z := by
  obtain ⟨xs, n, _, _, _, hlen, hg⟩ := DataW.trod_struct Tryd.underlying47 h
  have hl : xs.length = 5 := hlen
  match xs, hl with
  | [y0, y1, y2, y3, y4], _ =>
    have e1 : Tryd.prog.cellsOf 3 = 1 := by kernel_rfl
    have e2 : Tryd.prog.cellsOf 45 = 1 := by kernel_rfl
    have g0 := hg 0 _ rfl
    have g1 := hg 1 _ rfl
    have g2 := hg 2 _ rfl
    have g3 := hg 3 _ rfl
    have g4 := hg 4 _ rfl
    simp [e1, e2] at g0 g1 g2 g3 g4
    obtain ⟨p, rfl, wp⟩ := read_int Tryd.underlying3 g0
    obtain ⟨s, rfl, ws⟩ := read_int Tryd.underlying3 g1
    obtain ⟨t, rfl, wt⟩ := read_int Tryd.underlying3 g2
    obtain ⟨k, rfl, wk⟩ := read_int Tryd.underlying3 g3
    obtain ⟨A, cap, l, rfl, hi, hc, hm, hw⟩ := read_ints Tryd.underlying45 Tryd.underlying3 (by kernel_rfl) g4
    unfold maxLen at hm
    exact ⟨⟨p, s, t, k, A, cap, l⟩, rfl, rfl, rfl, rfl, rfl, ⟨⟨wf_i64 wp, wf_i64 ws, wf_i64 wt, wf_i64 wk, by show l.length ≤ _; omega⟩, hc, hm, hi, fit_wf hw⟩⟩
theorem cells_of_array5 {cs : Array Value} (h : cs.size = 5) : ∃ c0 c1 c2 c3 c4, cs = #[c0, c1, c2, c3, c4] := by
  obtain ⟨l⟩ := cs
  match l, h with
  | [c0, c1, c2, c3, c4], _ => exact ⟨c0, c1, c2, c3, c4, rfl⟩
theorem open_msg {H : Type} {enc : TypeId × Value → H} {W : World} {base : Nat} {held : Bool} {v : Value} {d : DataW H} {p : List MemPlace} (hv : Value.okWide Tryd.prog W .any base 47 v) (h : DataW.Trod enc Tryd.prog W 0 (fun _ => true) held 47 v d p) :
    ∃ z : Msg, v = .agg z.cells.toArray ∧ MsgArg W z := by
  obtain ⟨cs, rfl, hsz⟩ := okWide_struct Tryd.underlying47 hv
  have e : Tryd.prog.cellsOf 47 = 5 := by kernel_rfl
  obtain ⟨c0, c1, c2, c3, c4, rfl⟩ := cells_of_array5 (hsz.trans e)
  obtain ⟨fuel, hf⟩ := h
  obtain ⟨z, rfl, rfl, rfl, rfl, rfl, hz⟩ := read_msg hf
  exact ⟨z, rfl, hz⟩
/-- the tables of both packages -/
def JTab (w : World) : Prop := Tab w ∧ Cnt w
end Go.Proofs.YtmbmejclnagffaaDoor

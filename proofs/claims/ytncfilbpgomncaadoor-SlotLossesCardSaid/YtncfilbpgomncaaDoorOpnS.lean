/- Opening arguments: slots, pairs of slots. -/
import Derived.Test.YtncfilbpgomncaaDoorSlW
import Derived.Test.YtncfilbpgomncaaDoorOpn2
import Derived.Lib.SmallJoins
namespace Go.Proofs.YtncfilbpgomncaaDoor
set_option linter.unusedSimpArgs false
set_option linter.unusedVariables false
set_option maxRecDepth 100000
open Go.RowKit Go.ChangeShapes Go.WideShapes Go.ChangeAt

/-- a slot that came in -/
structure SlotArg (w : World) (A : Option Addr) (n cap : Nat) (x : Slt) : Prop where
  len : x.l.length = n
  s : -9223372036854775808 ≤ x.s ∧ x.s ≤ 9223372036854775807
  c : -9223372036854775808 ≤ x.c ∧ x.c ≤ 9223372036854775807
  ints : IntsAt w A .i64 x.l
  room : n ≤ cap
  max : cap ≤ 9223372036854775807
  fit : Fit x.l
  u : 0 ≤ x.u ∧ x.u ≤ 18446744073709551615
theorem SlotArg.is {w : World} {A : Option Addr} {n cap : Nat} {x : Slt} (h : SlotArg w A n cap x) (hn : n ≤ 40) : SlotIs w A n x := ⟨h.len, h.s, h.c, h.ints, by omega, h.fit, h.u⟩

theorem read_slot {H : Type} {enc : TypeId × Value → H} {W : World} {held : Bool} {fuel : Nat} {c0 c1 c2 c3 : Value} {x : DataW H × List MemPlace} (h : DataW.trod enc Tryd.prog W 0 (fun _ => true) held fuel 50 [c0, c1, c2, c3] = some x) :
    ∃ (z : Slt) (A : Option Addr) (n cap : Nat), c0 = .int .i64 z.s ∧ c1 = .int .i64 z.c ∧ c2 = .slice A n cap ∧ c3 = .int .u64 z.u ∧ SlotArg W A n cap z := by
  obtain ⟨xs, n, _, _, _, hlen, hg⟩ := DataW.trod_struct Tryd.underlying50 h
  have hl : xs.length = 4 := hlen
  match xs, hl with
  | [y0, y1, y2, y3], _ =>
    have e1 : Tryd.prog.cellsOf 3 = 1 := by kernel_rfl
    have e2 : Tryd.prog.cellsOf 24 = 1 := by kernel_rfl
    have e3 : Tryd.prog.cellsOf 39 = 1 := by kernel_rfl
    have g0 := hg 0 _ rfl
    have g1 := hg 1 _ rfl
    have g2 := hg 2 _ rfl
    have g3 := hg 3 _ rfl
    simp [e1, e2, e3] at g0 g1 g2 g3
    obtain ⟨s, rfl, ws⟩ := read_int Tryd.underlying3 g0
    obtain ⟨c, rfl, wc⟩ := read_int Tryd.underlying3 g1
    obtain ⟨A, cap, l, rfl, hi, hc, hm, hw⟩ := read_ints Tryd.underlying24 Tryd.underlying3 (by kernel_rfl) g2
    obtain ⟨u, rfl, wu⟩ := read_int Tryd.underlying39 g3
    unfold maxLen at hm
    exact ⟨⟨s, c, l, u⟩, A, l.length, cap, rfl, rfl, rfl, rfl, ⟨rfl, wf_i64 ws, wf_i64 wc, hi, hc, hm, fit_wf hw, wf_u64 wu⟩⟩
theorem cells_of_array4 {cs : Array Value} (h : cs.size = 4) : ∃ c0 c1 c2 c3, cs = #[c0, c1, c2, c3] := by
  obtain ⟨l⟩ := cs
  match l, h with
  | [c0, c1, c2, c3], _ => exact ⟨c0, c1, c2, c3, rfl⟩
theorem cells_of_array8 {cs : Array Value} (h : cs.size = 8) : ∃ c0 c1 c2 c3 c4 c5 c6 c7, cs = #[c0, c1, c2, c3, c4, c5, c6, c7] := by
  obtain ⟨l⟩ := cs
  match l, h with
  | [c0, c1, c2, c3, c4, c5, c6, c7], _ => exact ⟨c0, c1, c2, c3, c4, c5, c6, c7, rfl⟩
theorem okWide_array {P : Program} {w : World} {r : Reach} {base : Nat} {t e : TypeId} {n : Nat} {v : Value} (ht : P.underlying t = some (.array n e)) (h : Value.okWide P w r base t v) : ∃ cs, v = .agg cs ∧ cs.size = P.cellsOf t := by
  simp only [Value.okWide, ht] at h
  obtain ⟨cs, h1, h2, _⟩ := h
  exact ⟨cs, h1, h2⟩
theorem open_slot {H : Type} {enc : TypeId × Value → H} {W : World} {base : Nat} {held : Bool} {v : Value} {d : DataW H} {p : List MemPlace} (hv : Value.okWide Tryd.prog W .any base 50 v) (h : DataW.Trod enc Tryd.prog W 0 (fun _ => true) held 50 v d p) :
    ∃ (z : Slt) (A : Option Addr) (n cap : Nat), v = .agg #[.int .i64 z.s, .int .i64 z.c, .slice A n cap, .int .u64 z.u] ∧ SlotArg W A n cap z := by
  obtain ⟨cs, rfl, hsz⟩ := okWide_struct Tryd.underlying50 hv
  have e : Tryd.prog.cellsOf 50 = 4 := by kernel_rfl
  obtain ⟨c0, c1, c2, c3, rfl⟩ := cells_of_array4 (hsz.trans e)
  obtain ⟨fuel, hf⟩ := h
  obtain ⟨z, A, n, cap, rfl, rfl, rfl, rfl, hz⟩ := read_slot hf
  exact ⟨z, A, n, cap, rfl, hz⟩
theorem open_slots {H : Type} {enc : TypeId × Value → H} {W : World} {base : Nat} {held : Bool} {v : Value} {d : DataW H} {p : List MemPlace} (hv : Value.okWide Tryd.prog W .any base 51 v) (h : DataW.Trod enc Tryd.prog W 0 (fun _ => true) held 51 v d p) :
    ∃ (x y : Slt) (A : Option Addr) (n cap : Nat) (B : Option Addr) (m q : Nat), v = .agg #[.int .i64 x.s, .int .i64 x.c, .slice A n cap, .int .u64 x.u, .int .i64 y.s, .int .i64 y.c, .slice B m q, .int .u64 y.u] ∧ SlotArg W A n cap x ∧ SlotArg W B m q y := by
  obtain ⟨cs, rfl, hsz⟩ := okWide_array Tryd.underlying51 hv
  have e8 : Tryd.prog.cellsOf 51 = 8 := by kernel_rfl
  have e4 : Tryd.prog.cellsOf 50 = 4 := by kernel_rfl
  obtain ⟨c0, c1, c2, c3, c4, c5, c6, c7, rfl⟩ := cells_of_array8 (hsz.trans e8)
  obtain ⟨fuel, hf⟩ := h
  obtain ⟨xs, m, _, _, _, hlen, hg⟩ := DataW.trod_array Tryd.underlying51 hf
  match xs, hlen with
  | [y0, y1], _ =>
    have g0 := hg 0 (by omega)
    have g1 := hg 1 (by omega)
    simp [e4, Value.cells] at g0 g1
    obtain ⟨x, A, n, cap, rfl, rfl, rfl, rfl, hx⟩ := read_slot g0
    obtain ⟨y, B, m, q, rfl, rfl, rfl, rfl, hy⟩ := read_slot g1
    exact ⟨x, y, A, n, cap, B, m, q, rfl, hx, hy⟩
end Go.Proofs.YtncfilbpgomncaaDoor

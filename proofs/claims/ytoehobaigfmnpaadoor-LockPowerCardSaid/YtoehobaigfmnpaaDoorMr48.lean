/- Opening arguments: locks. -/
import Derived.DeepKeys
import Derived.OpenShut
import Derived.Test.YtoehobaigfmnpaaDoorMr1
import Derived.Test.YtoehobaigfmnpaaDoorMr12
import Derived.Test.YtoehobaigfmnpaaDoorMr23
import Derived.Test.YtoehobaigfmnpaaDoorMr25
import Derived.Test.YtoehobaigfmnpaaDoorMr28
section
namespace Go.Proofs.YtoehobaigfmnpaaDoor
set_option linter.unusedSimpArgs false
set_option linter.unusedVariables false
set_option maxRecDepth 100000
open Go.RowKit Go.ChangeShapes Go.WideShapes Go.ChangeAt
theorem read_card {H : Type} {enc : TypeId × Value → H} {W : World} {held : Bool} (fuel : Nat) (cs : List Value) (x : DataW H × List MemPlace) (hl : cs.length = 9) (h : DataW.trod enc Tryd.prog W 0 (fun _ => true) held fuel 31 cs = some x) : ∃ z, CdAt W cs z := by
  obtain ⟨xs, n, _, _, _, hlen, hg⟩ := DataW.trod_struct Tryd.underlying31 h
  have hx : xs.length = 8 := hlen
  match xs, hx, cs, hl with
  | [y0, y1, y2, y3, y4, y5, y6, y7], _, [c0, c1, c2, c3, c4, c5, c6, c7, c8], _ =>
    have e1 : Tryd.prog.cellsOf 3 = 1 := by kernel_rfl
    have e2 : Tryd.prog.cellsOf 29 = 2 := by kernel_rfl
    have g0 := hg 0 _ rfl
    have g1 := hg 1 _ rfl
    have g2 := hg 2 _ rfl
    have g3 := hg 3 _ rfl
    have g4 := hg 4 _ rfl
    have g5 := hg 5 _ rfl
    have g6 := hg 6 _ rfl
    have g7 := hg 7 _ rfl
    simp [e1, e2] at g0 g1 g2 g3 g4 g5 g6 g7
    obtain ⟨a0, rfl, w0⟩ := read_int Tryd.underlying3 g0
    obtain ⟨a1, rfl, w1⟩ := read_int Tryd.underlying3 g1
    obtain ⟨a2, rfl, w2⟩ := read_int Tryd.underlying3 g2
    obtain ⟨a3, rfl, w3⟩ := read_int Tryd.underlying3 g3
    obtain ⟨a4, rfl, w4⟩ := read_int Tryd.underlying3 g4
    obtain ⟨a5, rfl, w5⟩ := read_int Tryd.underlying3 g5
    obtain ⟨a6, rfl, w6⟩ := read_int Tryd.underlying3 g6
    obtain ⟨zs, n2, _, _, _, hlen2, hg2⟩ := DataW.trod_struct Tryd.underlying29 g7
    have hz : zs.length = 2 := hlen2
    match zs, hz with
    | [z0, z1], _ =>
      have k0 := hg2 0 _ rfl
      have k1 := hg2 1 _ rfl
      simp [e1] at k0 k1
      obtain ⟨a7, rfl, w7⟩ := read_int Tryd.underlying3 k0
      obtain ⟨a8, rfl, w8⟩ := read_int Tryd.underlying3 k1
      exact ⟨⟨a0, a1, a2, a3, a4, a5, a6, a7, a8⟩, rfl, ⟨wf_i64 w0, wf_i64 w1, wf_i64 w2, wf_i64 w3, wf_i64 w4, wf_i64 w5, wf_i64 w6, wf_i64 w7, wf_i64 w8⟩⟩
theorem open_card {H : Type} {enc : TypeId × Value → H} {W : World} {base : Nat} {held : Bool} {v : Value} {d : DataW H} {p : List MemPlace} (hv : Value.okWide Tryd.prog W .any base 31 v) (h : DataW.Trod enc Tryd.prog W 0 (fun _ => true) held 31 v d p) :
    ∃ c : Crd, v = .agg c.cells.toArray ∧ CFit c := by
  obtain ⟨cs, rfl, hsz⟩ := okWide_struct Tryd.underlying31 hv
  have e : Tryd.prog.cellsOf 31 = 9 := by kernel_rfl
  obtain ⟨fuel, hf⟩ := h
  obtain ⟨z, hz, hzf⟩ := read_card fuel cs.toList _ (by rw [Array.length_toList, hsz, e]) hf
  exact ⟨z, by rw [← hz], hzf⟩
theorem open_cards {H : Type} {enc : TypeId × Value → H} {W : World} {base : Nat} {held : Bool} {v : Value} {d : DataW H} {p : List MemPlace} (hv : Value.okWide Tryd.prog W .any base 22 v) (h : DataW.Trod enc Tryd.prog W 0 (fun _ => true) held 22 v d p) :
    ∃ A c l, v = .slice A l.length c ∧ Cards W A l ∧ l.length ≤ c ∧ c ≤ maxLen := by
  obtain ⟨a0, len, cap, rfl⟩ := okWide_slice Tryd.underlying22 hv
  obtain ⟨fuel, hf⟩ := h
  exact read_rows (by decide) Tryd.underlying22 (by kernel_rfl) read_card hf
end Go.Proofs.YtoehobaigfmnpaaDoor
end
section
namespace Go.Proofs.YtoehobaigfmnpaaDoor
set_option linter.unusedSimpArgs false
set_option linter.unusedVariables false
set_option maxRecDepth 100000
open Go.RowKit Go.ChangeShapes Go.WideShapes Go.ChangeAt
theorem read_slots {H : Type} {enc : TypeId × Value → H} {W : World} {held : Bool} {fuel : Nat} {c0 c1 c2 c3 c4 c5 c6 c7 : Value} {x : DataW H × List MemPlace} (h : DataW.trod enc Tryd.prog W 0 (fun _ => true) held fuel 53 [c0, c1, c2, c3, c4, c5, c6, c7] = some x) :
    ∃ (x y : Slt) (A : Option Addr) (n cap : Nat) (B : Option Addr) (m q : Nat), [c0, c1, c2, c3, c4, c5, c6, c7] = [.int .i64 x.s, .int .i64 x.c, .slice A n cap, .int .u64 x.u, .int .i64 y.s, .int .i64 y.c, .slice B m q, .int .u64 y.u] ∧ SlotArg W A n cap x ∧ SlotArg W B m q y := by
  have e4 : Tryd.prog.cellsOf 52 = 4 := by kernel_rfl
  obtain ⟨xs, m, _, _, _, hlen, hg⟩ := DataW.trod_array Tryd.underlying53 h
  match xs, hlen with
  | [y0, y1], _ =>
    have g0 := hg 0 (by omega)
    have g1 := hg 1 (by omega)
    simp [e4] at g0 g1
    obtain ⟨x, A, n, cap, rfl, rfl, rfl, rfl, hx⟩ := read_slot g0
    obtain ⟨y, B, m, q, rfl, rfl, rfl, rfl, hy⟩ := read_slot g1
    exact ⟨x, y, A, n, cap, B, m, q, rfl, hx, hy⟩
theorem read_lock {H : Type} {enc : TypeId × Value → H} {W : World} {held : Bool} (fuel : Nat) (cs : List Value) (x : DataW H × List MemPlace) (hl : cs.length = 12) (h : DataW.trod enc Tryd.prog W 0 (fun _ => true) held fuel 55 cs = some x) :
    ∃ (l : Lk) (A : Option Addr) (n p : Nat) (B : Option Addr) (m q : Nat), cs = l.cells A n p B m q ∧ SlotArg W A n p l.x ∧ SlotArg W B m q l.y ∧ LFit l := by
  obtain ⟨xs, n, _, _, _, hlen, hg⟩ := DataW.trod_struct Tryd.underlying55 h
  have hx : xs.length = 5 := hlen
  match xs, hx, cs, hl with
  | [y0, y1, y2, y3, y4], _, [c0, c1, c2, c3, c4, c5, c6, c7, c8, c9, c10, c11], _ =>
    have e1 : Tryd.prog.cellsOf 3 = 1 := by kernel_rfl
    have e2 : Tryd.prog.cellsOf 53 = 8 := by kernel_rfl
    have e3 : Tryd.prog.cellsOf 4 = 1 := by kernel_rfl
    have g0 := hg 0 _ rfl
    have g1 := hg 1 _ rfl
    have g2 := hg 2 _ rfl
    have g3 := hg 3 _ rfl
    have g4 := hg 4 _ rfl
    simp [e1, e2, e3] at g0 g1 g2 g3 g4
    obtain ⟨a0, rfl, w0⟩ := read_int Tryd.underlying3 g0
    obtain ⟨a1, rfl, w1⟩ := read_int Tryd.underlying3 g1
    obtain ⟨a2, rfl, w2⟩ := read_int Tryd.underlying3 g2
    obtain ⟨x, y, A, n, p, B, m, q, e, hx, hy⟩ := read_slots g3
    obtain ⟨b, hb, _⟩ := DataW.trod_bool Tryd.underlying4 g4
    simp only [List.cons.injEq, and_true] at e hb
    obtain ⟨rfl, rfl, rfl, rfl, rfl, rfl, rfl, rfl⟩ := e
    subst hb
    exact ⟨⟨a0, a1, a2, x, y, b⟩, A, n, p, B, m, q, rfl, hx, hy, ⟨wf_i64 w0, wf_i64 w1, wf_i64 w2⟩⟩
theorem open_lock {H : Type} {enc : TypeId × Value → H} {W : World} {base : Nat} {held : Bool} {v : Value} {d : DataW H} {p : List MemPlace} (hv : Value.okWide Tryd.prog W .any base 55 v) (h : DataW.Trod enc Tryd.prog W 0 (fun _ => true) held 55 v d p) :
    ∃ (l : Lk) (A : Option Addr) (n p : Nat) (B : Option Addr) (m q : Nat), v = .agg (l.cells A n p B m q).toArray ∧ SlotArg W A n p l.x ∧ SlotArg W B m q l.y ∧ LFit l := by
  obtain ⟨cs, rfl, hsz⟩ := okWide_struct Tryd.underlying55 hv
  have e : Tryd.prog.cellsOf 55 = 12 := by kernel_rfl
  obtain ⟨fuel, hf⟩ := h
  obtain ⟨l, A, n, p, B, m, q, hz, hx, hy, hl⟩ := read_lock fuel cs.toList _ (by rw [Array.length_toList, hsz, e]) hf
  exact ⟨l, A, n, p, B, m, q, by rw [← hz], hx, hy, hl⟩
end Go.Proofs.YtoehobaigfmnpaaDoor
end

/- Two cards are compared. -/
import Derived.Test.YtoehobaigfmnpaaDoorCaP
import Derived.Test.YtoehobaigfmnpaaDoorMem
import Derived.DeepKeys
namespace Go.Proofs.YtoehobaigfmnpaaDoor
set_option linter.unusedSimpArgs false
set_option linter.unusedVariables false
set_option maxRecDepth 100000
open Go.RowKit

set_option maxHeartbeats 4000000 in
theorem lits_card (c : Crd) (hc : CFit c) : Tryd.prog.keyLits 10 31 c.cells = some [.int .i64 c.i, .int .i64 c.k, .int .i64 c.d, .int .i64 c.n, .int .i64 c.f, .int .i64 c.u, .int .i64 c.l, .int .i64 c.e, .int .i64 c.s] := by
  have w1 := WalkArith.wf_i64 hc.i
  have w2 := WalkArith.wf_i64 hc.k
  have w3 := WalkArith.wf_i64 hc.d
  have w4 := WalkArith.wf_i64 hc.n
  have w5 := WalkArith.wf_i64 hc.f
  have w6 := WalkArith.wf_i64 hc.u
  have w7 := WalkArith.wf_i64 hc.l
  have w8 := WalkArith.wf_i64 hc.e
  have w9 := WalkArith.wf_i64 hc.s
  have c1 : Tryd.prog.cellsOf 3 = 1 := by kernel_rfl
  have c2 : Tryd.prog.cellsOf 31 = 9 := by kernel_rfl
  have c3 : Tryd.prog.cellsOf 29 = 2 := by kernel_rfl
  have k1 : ∀ d n, (Lit.int .i64 n).wf = true → Tryd.prog.keyLits (d + 1) 3 [.int .i64 n] = some [.int .i64 n] := fun d n h => by simp [Program.keyLits, Tryd.underlying3, h]
  have k2 : ∀ d a b, (Lit.int .i64 a).wf = true → (Lit.int .i64 b).wf = true → Tryd.prog.keyLits (d + 2) 29 [.int .i64 a, .int .i64 b] = some [.int .i64 a, .int .i64 b] := fun d a b h1 h2 => by
    unfold Program.keyLits
    rw [Tryd.underlying29]
    simp [c1, c3, k1 d _ h1, k1 d _ h2]
  unfold Program.keyLits
  rw [Tryd.underlying31]
  simp [c1, c2, c3, Crd.cells, k1 8 _ w1, k1 8 _ w2, k1 8 _ w3, k1 8 _ w4, k1 8 _ w5, k1 8 _ w6, k1 8 _ w7, k2 7 _ _ w8 w9]
theorem eq_card (c d : Crd) (hc : CFit c) (hd : CFit d) (w : World) : Sem.run Tryd.prog (Op.equalIn 10000 31 (.agg c.cells.toArray) (.agg d.cells.toArray)) w = .ok (ceqB c d) w := by
  obtain ⟨r, hr, hi⟩ := run_equalIn_deep (P := Tryd.prog) 9990 10 31 (by kernel_rfl) w 10 10 (.agg c.cells.toArray) (.agg d.cells.toArray) _ _ (by kernel_rfl) (by kernel_rfl) (lits_card c hc) (lits_card d hd)
  have e : r = ceqB c d := by
    rw [Bool.eq_iff_iff, hi]
    simp [ceqB]
  rw [← e]; exact hr
end Go.Proofs.YtoehobaigfmnpaaDoor

/- Contracts of package card: within, exponent, kinds. -/
import Derived.Test.YtoehobaigfmnpaaDoorCaP
import Derived.Test.YtoehobaigfmnpaaDoorMp
import Derived.Test.YtoehobaigfmnpaaDoorOrd
namespace Go.Proofs.YtoehobaigfmnpaaDoor
set_option linter.unusedSimpArgs false
set_option linter.unusedVariables false
set_option maxRecDepth 100000
open Go.RowKit Go.Maps

theorem cwithin_any (n lo hi : Int) (w : World) : Calls Tryd.prog 37 #[.int .i64 n, .int .i64 lo, .int .i64 hi] w fun e w' => e = .returned (.bool (wB n lo hi)) ∧ w = w' := by
  by_cases h1 : lo ≤ n
  · by_cases h2 : n ≤ hi
    · have e : wB n lo hi = true := by simp [wB, h1, h2]
      have H_e := Lib.hid e; clear e
      go_enter Tryd.func37, Tryd.ntmps37
      go_wp2
      go_ret
      exact ⟨ret_bool (by rw [H_e.out]), rfl⟩
    · have e : wB n lo hi = false := by simp [wB, h2]
      have h3 : decide (n ≤ hi) = false := by simpa using h2
      have H_e := Lib.hid e; clear e
      go_enter Tryd.func37, Tryd.ntmps37
      go_wp2
      go_ret
      exact ⟨ret_bool (by rw [H_e.out]), rfl⟩
  · have e : wB n lo hi = false := by simp [wB, h1]
    have h3 : decide (lo ≤ n) = false := by simpa using h1
    have H_e := Lib.hid e; clear e
    go_enter Tryd.func37, Tryd.ntmps37
    go_wp2
    go_ret
    exact ⟨ret_bool (by rw [H_e.out]), rfl⟩
theorem cexponent_any (n : Int) (w : World) : Calls Tryd.prog 39 #[.int .i64 n] w fun e w' => e = .returned (.bool (wB n 0 1073741788)) ∧ w = w' := by
  have q := cwithin_any n 0 1073741788 w
  generalize wB n 0 1073741788 = R at *
  have H_q := Lib.hid q; clear q
  go_enter Tryd.func39, Tryd.ntmps39
  go_wp2_with fail
  refine H_q.out.mono ?_
  rintro e w_ ⟨rfl, rfl⟩
  go_wp2_with fail
  go_ret
  exact ⟨rfl, rfl⟩

/-- what a kind of cards needs -/
def needV (a b c d e f : Int) : Value := .agg #[.int .i64 a, .int .i64 b, .int .i64 c, .int .i64 d, .int .i64 e, .int .i64 f]
def kindD : DataW Value := (((DataW.map []).put (.int .i64 1) (.held (needV 1 400 1 1000000000 0 0))).put (.int .i64 2) (.held (needV 0 400 0 0 0 0))).put (.int .i64 3) (.held (needV 0 400 0 0 1 1000000))
/-- a map in new memory -/
def NewMap (k : TypeId) (n : Nat) (D : DataW Value) (w : World) (e : Ending) (w' : World) : Prop := ∃ b, e = .returned (.map (some b)) ∧ MapAt w' Tryd.prog k b n D ∧ Below w.heap.size w w'
set_option maxHeartbeats 1000000 in
theorem kinds_any (w : World) : Calls Tryd.prog 38 #[] w (NewMap 3 3 kindD w) := by
  have hmm := @run_makeMap Tryd.prog
  have K : Keyed Tryd.prog 3 := int_keyed Tryd.underlying3
  have k1 : keyOf Tryd.prog 3 (.int .i64 1) = some (.int .i64 1) := keyOf_int_mk Tryd.underlying3 (by decide)
  have k2 : keyOf Tryd.prog 3 (.int .i64 2) = some (.int .i64 2) := keyOf_int_mk Tryd.underlying3 (by decide)
  have k3 : keyOf Tryd.prog 3 (.int .i64 3) = some (.int .i64 3) := keyOf_int_mk Tryd.underlying3 (by decide)
  have H_k1 := Lib.hid k1; clear k1; have H_k2 := Lib.hid k2; clear k2; have H_k3 := Lib.hid k3; clear k3
  go_enter Tryd.func38, Tryd.ntmps38
  go_wp2_with (refine wp_insert_any _ (by rfl) (.tmp 1) _ (.tmp 5) _ (by rfl) 3 80 K Tryd.underlying82 w.heap.size 0 (.map []) (by rfl) (MapAt.made w _ _ rfl) (by unfold maxLen; omega) (.int .i64 1) (needV 1 400 1 1000000000 0 0) (.int .i64 1) (by rfl) (by rfl) H_k1.out ?_)
  intro w1 m1 g1
  go_wp2_with (refine wp_insert_any _ (by rfl) (.tmp 1) _ (.tmp 9) _ (by rfl) 3 80 K Tryd.underlying82 w.heap.size 1 _ (by rfl) m1 (by unfold maxLen; omega) (.int .i64 2) (needV 0 400 0 0 0 0) (.int .i64 2) (by rfl) (by rfl) H_k2.out ?_)
  intro w2 m2 g2
  go_wp2_with (refine wp_insert_any _ (by rfl) (.tmp 1) _ (.tmp 13) _ (by rfl) 3 80 K Tryd.underlying82 w.heap.size 2 _ (by rfl) m2 (by unfold maxLen; omega) (.int .i64 3) (needV 0 400 0 0 1 1000000) (.int .i64 3) (by rfl) (by rfl) H_k3.out ?_)
  intro w3 m3 g3
  have g12 := grown_then g1 g2 (.inl rfl)
  have g13 := grown_then g12 g3 (.inl rfl)
  have H_m1 := Lib.hid m1; clear m1; have H_m2 := Lib.hid m2; clear m2; have H_m3 := Lib.hid m3; clear m3; have H_g1 := Lib.hid g1; clear g1; have H_g2 := Lib.hid g2; clear g2; have H_g3 := Lib.hid g3; clear g3; have H_g12 := Lib.hid g12; clear g12; have H_g13 := Lib.hid g13; clear g13
  go_wp2_with fail
  go_ret
  exact ⟨w.heap.size, rfl, H_m3.out, below_of_grown (grown_then ((grown_of_below ((Below.refl _ _).alloc (Nat.le_refl _) _) (some w.heap.size))) H_g13.out (.inl rfl)) (Nat.le_refl _) (Nat.le_refl _)⟩
end Go.Proofs.YtoehobaigfmnpaaDoor

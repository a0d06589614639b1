/- Contracts of package ratio: Valid. -/
import Derived.Test.YtaloadadecoogaaDoorMnA
import Derived.DeepKeys4
import Derived.BigGuardPart
namespace Go.Proofs.YtaloadadecoogaaDoor
set_option linter.unusedSimpArgs false
set_option linter.unusedVariables false
set_option maxRecDepth 100000
open Go.RowKit Go.Maps

theorem eq_frac (a b c d : Int) (ha : -9223372036854775808 ≤ a ∧ a ≤ 9223372036854775807) (hb : -9223372036854775808 ≤ b ∧ b ≤ 9223372036854775807) (hc : -9223372036854775808 ≤ c ∧ c ≤ 9223372036854775807) (hd : -9223372036854775808 ≤ d ∧ d ≤ 9223372036854775807) {R : Bool} (hR : decide (a = c ∧ b = d) = R) (w : World) :
    Sem.run Tryd.prog (Op.equalIn 10000 72 (.agg #[.int .i64 a, .int .i64 b]) (.agg #[.int .i64 c, .int .i64 d])) w = .ok R w := by
  have c1 : Tryd.prog.cellsOf 3 = 1 := by kernel_rfl
  have c2 : Tryd.prog.cellsOf 72 = 2 := by kernel_rfl
  have k1 : ∀ d n, (Lit.int .i64 n).wf = true → Tryd.prog.keyLits (d + 1) 3 [.int .i64 n] = some [.int .i64 n] := fun d n h => by simp [Program.keyLits, Tryd.underlying3, h]
  have k2 : ∀ a b, (Lit.int .i64 a).wf = true → (Lit.int .i64 b).wf = true → Tryd.prog.keyLits 10 72 [.int .i64 a, .int .i64 b] = some [.int .i64 a, .int .i64 b] := fun a b h1 h2 => by
    unfold Program.keyLits
    rw [Tryd.underlying72]
    simp [c1, c2, k1 8 _ h1, k1 8 _ h2]
  obtain ⟨r, hr, hi⟩ := run_equalIn_deep (P := Tryd.prog) 9990 10 72 (by kernel_rfl) w 10 10 (.agg #[.int .i64 a, .int .i64 b]) (.agg #[.int .i64 c, .int .i64 d]) _ _ (by kernel_rfl) (by kernel_rfl) (k2 a b (WalkArith.wf_i64 ha) (WalkArith.wf_i64 hb)) (k2 c d (WalkArith.wf_i64 hc) (WalkArith.wf_i64 hd))
  have e : r = R := by
    rw [← hR, Bool.eq_iff_iff, hi]
    simp
  rw [← e]; exact hr
set_option maxHeartbeats 4000000 in
theorem mrat_any (n d : Int) (hn : -9223372036854775808 ≤ n ∧ n ≤ 9223372036854775807) (hd : -9223372036854775808 ≤ d ∧ d ≤ 9223372036854775807) (w : World) :
    Calls Tryd.prog 37 #[.agg #[.int .i64 n, .int .i64 d]] w fun e w' => e = .returned (.bool (ratB n d)) ∧ Below w.heap.size w w' := by
  obtain ⟨w0, hw0⟩ : ∃ W, w.alloc (.cells #[.int .i64 n, .int .i64 d] 40) = W := ⟨_, rfl⟩
  have bb0 : Below w.heap.size w w0 := by rw [← hw0]; exact (Below.refl _ _).alloc (Nat.le_refl _) _
  have k0 : Blk w0 w.heap.size #[.int .i64 n, .int .i64 d] := by rw [← hw0]; exact blk_new rfl
  have y0 := (k0 0 _ rfl).at
  have y1 := (k0 1 _ rfl).at
  by_cases h1 : d < 1
  · have e : ratB n d = false := by simp [ratB, amtB]; omega
    have i1 : decide (d < 1) = true := decide_eq_true h1
    have H_hw0 := Lib.hid hw0; clear hw0; have H_bb0 := Lib.hid bb0; clear bb0; have H_k0 := Lib.hid k0; clear k0; have H_e := Lib.hid e; clear e; have H_hn := Lib.hid hn; clear hn; have H_hd := Lib.hid hd; clear hd
    go_enter Tryd.func37, Tryd.ntmps37
    go_wp2_with fail
    rw [H_hw0.out]
    go_wp2_with fail
    go_ret
    exact ⟨ret_bool H_e.out.symm, H_bb0.out⟩
  have i1 : decide (d < 1) = false := decide_eq_false h1
  by_cases h2 : 1000000 < d
  · have e : ratB n d = false := by simp [ratB, amtB]; omega
    have i2 : decide (1000000 < d) = true := decide_eq_true h2
    have H_hw0 := Lib.hid hw0; clear hw0; have H_bb0 := Lib.hid bb0; clear bb0; have H_k0 := Lib.hid k0; clear k0; have H_e := Lib.hid e; clear e; have H_hn := Lib.hid hn; clear hn; have H_hd := Lib.hid hd; clear hd
    go_enter Tryd.func37, Tryd.ntmps37
    go_wp2_with fail
    rw [H_hw0.out]
    go_wp2_with fail
    go_ret
    exact ⟨ret_bool H_e.out.symm, H_bb0.out⟩
  have i2 : decide (1000000 < d) = false := decide_eq_false h2
  by_cases h3 : n < -1000000000
  · have e : ratB n d = false := by simp [ratB, amtB]; omega
    have i3 : decide (n < -1000000000) = true := decide_eq_true h3
    have H_hw0 := Lib.hid hw0; clear hw0; have H_bb0 := Lib.hid bb0; clear bb0; have H_k0 := Lib.hid k0; clear k0; have H_e := Lib.hid e; clear e; have H_hn := Lib.hid hn; clear hn; have H_hd := Lib.hid hd; clear hd
    go_enter Tryd.func37, Tryd.ntmps37
    go_wp2_with fail
    rw [H_hw0.out]
    go_wp2_with fail
    go_ret
    exact ⟨ret_bool H_e.out.symm, H_bb0.out⟩
  have i3 : decide (n < -1000000000) = false := decide_eq_false h3
  by_cases h4 : 1000000000 < n
  · have e : ratB n d = false := by simp [ratB, amtB]; omega
    have i4 : decide (1000000000 < n) = true := decide_eq_true h4
    have H_hw0 := Lib.hid hw0; clear hw0; have H_bb0 := Lib.hid bb0; clear bb0; have H_k0 := Lib.hid k0; clear k0; have H_e := Lib.hid e; clear e; have H_hn := Lib.hid hn; clear hn; have H_hd := Lib.hid hd; clear hd
    go_enter Tryd.func37, Tryd.ntmps37
    go_wp2_with fail
    rw [H_hw0.out]
    go_wp2_with fail
    go_ret
    exact ⟨ret_bool H_e.out.symm, H_bb0.out⟩
  have i4 : decide (1000000000 < n) = false := decide_eq_false h4
  have q1 := fun W => reduced_any n d (by omega) (by omega) W
  have hg : 1 ≤ Nat.gcd n.natAbs d.toNat := Nat.gcd_pos_of_pos_right _ (by omega)
  have hR : decide (n.tdiv (Nat.gcd n.natAbs d.toNat : Nat) = n ∧ d.tdiv (Nat.gcd n.natAbs d.toNat : Nat) = d) = ratB n d := by
    rw [Bool.eq_iff_iff, decide_eq_true_eq, reduced_same (by omega) hg]
    simp only [ratB, amtB, Bool.and_eq_true, decide_eq_true_eq]
    constructor
    · intro h; exact ⟨⟨⟨by omega, by omega⟩, by omega, by omega⟩, h⟩
    · intro h; exact h.2
  have b1 : -9223372036854775808 ≤ n.tdiv (Nat.gcd n.natAbs d.toNat : Nat) ∧ n.tdiv (Nat.gcd n.natAbs d.toNat : Nat) ≤ 9223372036854775807 := by
    have := Int.natAbs_tdiv_le_natAbs n (Nat.gcd n.natAbs d.toNat : Nat)
    omega
  have b2 : -9223372036854775808 ≤ d.tdiv (Nat.gcd n.natAbs d.toNat : Nat) ∧ d.tdiv (Nat.gcd n.natAbs d.toNat : Nat) ≤ 9223372036854775807 := by
    have := Int.natAbs_tdiv_le_natAbs d (Nat.gcd n.natAbs d.toNat : Nat)
    omega
  have eqf := fun W => eq_frac _ _ n d b1 b2 hn hd hR W
  clear hR b1 b2 hg
  generalize Nat.gcd n.natAbs d.toNat = G at *
  generalize ratB n d = R at *
  generalize n.tdiv (G : Int) = N at *
  generalize d.tdiv (G : Int) = D at *
  have ly := (k0 0 _ rfl).lt
  have H_hw0 := Lib.hid hw0; clear hw0; have H_bb0 := Lib.hid bb0; clear bb0; have H_k0 := Lib.hid k0; clear k0; have H_hn := Lib.hid hn; clear hn; have H_hd := Lib.hid hd; clear hd; have H_q1 := Lib.hid q1; clear q1
  go_enter Tryd.func37, Tryd.ntmps37
  go_wp2_with fail
  rw [H_hw0.out]
  go_wp2_with fail
  go_region_held3 (fun W => (∀ b o, b < w0.heap.size → W.cell? ⟨b, o, none⟩ = w0.cell? ⟨b, o, none⟩) ∧ Below w0.heap.size w0 W) (first | (refine ext_mk ?_; (repeat (first | with_reducible exact Below.refl _ _ | with_reducible exact Nat.le_refl _ | with_reducible assumption | with_reducible refine Below.drew ?_ | with_reducible refine below_drewN ?_ _ | with_reducible refine Below.alloc ?_ ?_ _ | with_reducible refine Below.setCell ?_ ?_ _ | with_reducible exact And.right (by assumption) | with_reducible refine Below.trans ?_ (Below.mono (by assumption) ?_) | with_reducible exact Below.size (And.right (by assumption)) | (focus omega) | (focus (simp; done)) | (focus (simp; omega)) | (focus (simp at *; omega)))))) ((go_at_call 45; (with_reducible refine (H_q1.out _).mono ?_); rintro e w2 ⟨rfl, hbw2⟩; have gw2 := Below.trans (And.right (by assumption : _ ∧ Below w0.heap.size w0 _)) (hbw2.mono (Below.size (And.right (by assumption : _ ∧ Below w0.heap.size w0 _)))); have gsw2 := gw2.size; have hcf := bcell hbw2; have hcw2 := hcf.1; have hfw2 := hcf.2; have hsw2 := hbw2.size; (try simp only [World.size_alloc, World.heap_drewN, heap_drew] at hsw2); clear hbw2 hcf; (try have hzw2 : w0.heap.size < w2.heap.size := by omega)))
  all_goals
    have gF : Below w0.heap.size w0 _ := And.right (by assumption)
    go_wp2_with fail
    go_ret
    exact ⟨rfl, H_bb0.out.trans (gF.mono H_bb0.out.size)⟩
end Go.Proofs.YtaloadadecoogaaDoor

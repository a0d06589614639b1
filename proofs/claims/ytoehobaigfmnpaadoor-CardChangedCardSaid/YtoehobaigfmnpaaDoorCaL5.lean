/- The walk of CardChanged. -/
import Derived.Test.YtoehobaigfmnpaaDoorCaL4
import Derived.Test.YtoehobaigfmnpaaDoorSgS
import Derived.Deep.CutRange
namespace Go.Proofs.YtoehobaigfmnpaaDoor
set_option linter.unusedSimpArgs false
set_option linter.unusedVariables false
set_option maxRecDepth 100000
open Go.RowKit Go.Maps

/-- a card in a block behind the switch -/
def Chg (w2 wx : World) (B : Nat) (E S : Int) (y : Crd) : Prop := CFit y ∧ y.e = E ∧ y.s = S ∧ Blk wx B y.cells.toArray ∧ Below w2.heap.size w2 wx
theorem wrap_int (x : Int) : -9223372036854775808 ≤ wrap64 x ∧ wrap64 x ≤ 9223372036854775807 := by unfold wrap64; omega
theorem cfit_mk {a b c d e f g h k : Int} (h1 : -9223372036854775808 ≤ a ∧ a ≤ 9223372036854775807) (h2 : -9223372036854775808 ≤ b ∧ b ≤ 9223372036854775807) (h3 : -9223372036854775808 ≤ c ∧ c ≤ 9223372036854775807) (h4 : -9223372036854775808 ≤ d ∧ d ≤ 9223372036854775807) (h5 : -9223372036854775808 ≤ e ∧ e ≤ 9223372036854775807) (h6 : -9223372036854775808 ≤ f ∧ f ≤ 9223372036854775807) (h7 : -9223372036854775808 ≤ g ∧ g ≤ 9223372036854775807) (h8 : -9223372036854775808 ≤ h ∧ h ≤ 9223372036854775807) (h9 : -9223372036854775808 ≤ k ∧ k ≤ 9223372036854775807) : CFit ⟨a, b, c, d, e, f, g, h, k⟩ := ⟨h1, h2, h3, h4, h5, h6, h7, h8, h9⟩
set_option maxHeartbeats 8000000 in
theorem cardChanged_walk (c : Crd) (s o what by_ : Int) (w0 : World) (hc : CFit c) (hs : (Lit.int .i64 s).wf = true) (ho : (Lit.int .i64 o).wf = true) (hwhat : (Lit.int .i64 what).wf = true) (hby : (Lit.int .i64 by_).wf = true) (ht : Tab w0) :
    Calls Tryd.prog 7 #[.agg c.cells.toArray, .int .i64 s, .int .i64 o, .int .i64 what, .int .i64 by_] w0 fun e w' => e = .returned (.bool true) ∧ Below w0.heap.size w0 w' := by
  have q2 := fun W h => cmake_any c s o hc W h
  obtain ⟨w1, hw1⟩ : ∃ W, w0.alloc (.cells c.cells.toArray 31) = W := ⟨_, rfl⟩
  have bb1 : Below w0.heap.size w0 w1 := by rw [← hw1]; exact (Below.refl _ _).alloc (Nat.le_refl _) _
  have t1 := ht.below bb1
  have q1 := head35_any w1 t1
  have k1 : Blk w1 w0.heap.size c.cells.toArray := by rw [← hw1]; exact blk_new rfl
  cases hmay : mayMk c s o with
  | false =>
    have hx : mkdC c s o = Crd.zero := by rw [mkdC, if_neg (by simp [hmay])]
    have hE : mkdE c s o = 1 := by rw [mkdE, if_neg (by simp [hmay])]
    rw [hx, hE] at q2
    have qp : ∀ W, ∃ p e, Calls Tryd.prog 18 #[.int .i64 s] W fun r w' => r = .returned (.tuple #[.int .i64 p, .int .i64 e]) ∧ Below W.heap.size W w' := fun W => by
      cases hw : wthB s 1 with
      | true =>
        have := public_yes s.toNat W (by have := wthB_iff.1 hw; rw [show ((s.toNat : Nat) : Int) = s by omega]; exact hw)
        rw [show ((s.toNat : Nat) : Int) = s by have := wthB_iff.1 hw; omega] at this
        exact ⟨_, _, this⟩
      | false => exact ⟨_, _, public_no s W hw⟩
    simp only [Crd.cells, Crd.zero] at q2 k1 hw1 ⊢
    have H_q1 := Lib.hid q1; clear q1; have H_q2 := Lib.hid q2; clear q2; have H_qp := Lib.hid qp; clear qp; have H_bb1 := Lib.hid bb1; clear bb1; have H_t1 := Lib.hid t1; clear t1; have H_k1 := Lib.hid k1; clear k1; have H_hw1 := Lib.hid hw1; clear hw1; have H_hc := Lib.hid hc; clear hc; have H_hs := Lib.hid hs; clear hs; have H_ho := Lib.hid ho; clear ho; have H_hwhat := Lib.hid hwhat; clear hwhat; have H_hby := Lib.hid hby; clear hby; have H_ht := Lib.hid ht; clear ht; have H_hmay := Lib.hid hmay; clear hmay; have H_hx := Lib.hid hx; clear hx; have H_hE := Lib.hid hE; clear hE
    go_enter Tryd.func7, Tryd.ntmps7
    go_wp2_with fail
    rw [H_hw1.out]
    go_wp2_with fail
    (with_reducible refine (H_q1.out).mono ?_)
    rintro e w2 ⟨rfl, b2⟩
    have c2 : Below w1.heap.size w1 w2 := Below.trans (by (repeat (first | with_reducible exact Below.refl _ _ | with_reducible exact Nat.le_refl _ | with_reducible assumption | with_reducible refine Below.drew ?_ | with_reducible refine below_drewN ?_ _ | with_reducible refine Below.alloc ?_ ?_ _ | with_reducible refine Below.setCell ?_ ?_ _ | with_reducible exact And.right (by assumption) | with_reducible refine Below.trans ?_ (Below.mono (by assumption) ?_) | with_reducible exact Below.size (And.right (by assumption)) | (focus omega) | (focus (simp; done)) | (focus (simp; omega)) | (focus (simp at *; omega))))) (b2.mono (by first | exact Nat.le_refl _ | omega | (simp; done) | (simp; omega)))
    have s2 := c2.size
    have bb2 := H_bb1.out.trans (c2.mono H_bb1.out.size)
    have t2 := H_t1.out.below c2
    have k2 := H_k1.out.below c2
    have H_b2 := Lib.hid b2; clear b2; have H_c2 := Lib.hid c2; clear c2; have H_bb2 := Lib.hid bb2; clear bb2; have H_t2 := Lib.hid t2; clear t2; have H_k2 := Lib.hid k2; clear k2
    have y0 := (H_k2.out 0 _ rfl).at
    have y1 := (H_k2.out 1 _ rfl).at
    have y2 := (H_k2.out 2 _ rfl).at
    have y3 := (H_k2.out 3 _ rfl).at
    have y4 := (H_k2.out 4 _ rfl).at
    have y5 := (H_k2.out 5 _ rfl).at
    have y6 := (H_k2.out 6 _ rfl).at
    have y7 := (H_k2.out 7 _ rfl).at
    have y8 := (H_k2.out 8 _ rfl).at
    go_wp2_with fail
    (with_reducible refine (H_q2.out _ ?_).mono ?_)
    · exact H_t2.out.below (show Below w2.heap.size w2 _ by (repeat (first | with_reducible exact Below.refl _ _ | with_reducible exact Nat.le_refl _ | with_reducible assumption | with_reducible refine Below.drew ?_ | with_reducible refine below_drewN ?_ _ | with_reducible refine Below.alloc ?_ ?_ _ | with_reducible refine Below.setCell ?_ ?_ _ | with_reducible exact And.right (by assumption) | with_reducible refine Below.trans ?_ (Below.mono (by assumption) ?_) | with_reducible exact Below.size (And.right (by assumption)) | (focus omega) | (focus (simp; done)) | (focus (simp; omega)) | (focus (simp at *; omega)))))
    rintro e w3 ⟨rfl, b3⟩
    have c3 : Below w2.heap.size w2 w3 := Below.trans (by (repeat (first | with_reducible exact Below.refl _ _ | with_reducible exact Nat.le_refl _ | with_reducible assumption | with_reducible refine Below.drew ?_ | with_reducible refine below_drewN ?_ _ | with_reducible refine Below.alloc ?_ ?_ _ | with_reducible refine Below.setCell ?_ ?_ _ | with_reducible exact And.right (by assumption) | with_reducible refine Below.trans ?_ (Below.mono (by assumption) ?_) | with_reducible exact Below.size (And.right (by assumption)) | (focus omega) | (focus (simp; done)) | (focus (simp; omega)) | (focus (simp at *; omega))))) (b3.mono (by first | exact Nat.le_refl _ | omega | (simp; done) | (simp; omega)))
    have s3 := c3.size
    have bb3 := H_bb2.out.trans (c3.mono H_bb2.out.size)
    have t3 := H_t2.out.below c3
    have k3 := H_k2.out.below c3
    have H_b3 := Lib.hid b3; clear b3; have H_c3 := Lib.hid c3; clear c3; have H_bb3 := Lib.hid bb3; clear bb3; have H_t3 := Lib.hid t3; clear t3; have H_k3 := Lib.hid k3; clear k3
    clear y0 y1 y2 y3 y4 y5 y6 y7 y8
    obtain ⟨p, e, hp⟩ := H_qp.out (w3.alloc (.cells #[.int .i64 0, .int .i64 0, .int .i64 0, .int .i64 0, .int .i64 0, .int .i64 0, .int .i64 0, .int .i64 0, .int .i64 0] 31))
    have H_hp := Lib.hid hp; clear hp
    go_wp2_with fail
    (with_reducible refine (H_hp.out).mono ?_)
    rintro e w4 ⟨rfl, b4⟩
    have c4 : Below w3.heap.size w3 w4 := Below.trans (by (repeat (first | with_reducible exact Below.refl _ _ | with_reducible exact Nat.le_refl _ | with_reducible assumption | with_reducible refine Below.drew ?_ | with_reducible refine below_drewN ?_ _ | with_reducible refine Below.alloc ?_ ?_ _ | with_reducible refine Below.setCell ?_ ?_ _ | with_reducible exact And.right (by assumption) | with_reducible refine Below.trans ?_ (Below.mono (by assumption) ?_) | with_reducible exact Below.size (And.right (by assumption)) | (focus omega) | (focus (simp; done)) | (focus (simp; omega)) | (focus (simp at *; omega))))) (b4.mono (by first | exact Nat.le_refl _ | omega | (simp; done) | (simp; omega)))
    have s4 := c4.size
    have bb4 := H_bb3.out.trans (c4.mono H_bb3.out.size)
    have H_b4 := Lib.hid b4; clear b4; have H_c4 := Lib.hid c4; clear c4; have H_bb4 := Lib.hid bb4; clear bb4
    go_wp2_with fail
    go_ret
    exact ⟨rfl, H_bb4.out⟩
  | true =>
    obtain ⟨_, hws, _, hsn, _⟩ := may_nat hmay
    have q4 := fun W => public_yes s.toNat W (by rw [hsn]; exact hws)
    rw [hsn] at q4
    have hE : mkdE c s o = 0 := by rw [mkdE, if_pos hmay]
    have hn := @sig_nat s.toNat o.toNat c.msg
    have hxx : mkdC c s o = c.sig (sigE s.toNat o.toNat c.msg) (sigS s.toNat o.toNat c.msg) := by rw [mkdC, if_pos hmay]
    rw [hxx, hE] at q2
    have hfx := mkd_fit s o hc
    rw [hxx] at hfx
    have hQ1 := sigE_lt s.toNat o.toNat c.msg
    have hQ2 := sigS_lt s.toNat o.toNat c.msg
    have hmP : memZ ((pw 4 s.toNat PP : Nat) : Int) = true := memZ_pw
    have hPlt : pw 4 s.toNat PP < PP := pw_lt (by decide)
    generalize sigE s.toNat o.toNat c.msg = E at *
    generalize sigS s.toNat o.toNat c.msg = S at *
    generalize pw 4 s.toNat PP = P at *
    have tm1 : -6 ≤ what.tmod 7 := by have h1 := Int.lt_tmod_of_pos what (b := 7) (by omega); omega
    have tm2 : what.tmod 7 ≤ 6 := by have h1 := Int.tmod_lt_of_pos what (b := 7) (by omega); omega
    simp only [Crd.cells, Crd.sig] at q2 k1 hw1 hfx ⊢
    have H_q1 := Lib.hid q1; clear q1; have H_q2 := Lib.hid q2; clear q2; have H_q4 := Lib.hid q4; clear q4; have H_bb1 := Lib.hid bb1; clear bb1; have H_t1 := Lib.hid t1; clear t1; have H_k1 := Lib.hid k1; clear k1; have H_hw1 := Lib.hid hw1; clear hw1; have H_hc := Lib.hid hc; clear hc; have H_hs := Lib.hid hs; clear hs; have H_ho := Lib.hid ho; clear ho; have H_hwhat := Lib.hid hwhat; clear hwhat; have H_hby := Lib.hid hby; clear hby; have H_ht := Lib.hid ht; clear ht; have H_hmay := Lib.hid hmay; clear hmay; have H_hws := Lib.hid hws; clear hws; have H_hsn := Lib.hid hsn; clear hsn; have H_hE := Lib.hid hE; clear hE; have H_hn := Lib.hid hn; clear hn; have H_hxx := Lib.hid hxx; clear hxx; have H_hfx := Lib.hid hfx; clear hfx; have H_hQ1 := Lib.hid hQ1; clear hQ1; have H_hQ2 := Lib.hid hQ2; clear hQ2; have H_hmP := Lib.hid hmP; clear hmP; have H_hPlt := Lib.hid hPlt; clear hPlt
    go_enter Tryd.func7, Tryd.ntmps7
    go_wp2_with fail
    rw [H_hw1.out]
    go_wp2_with fail
    (with_reducible refine (H_q1.out).mono ?_)
    rintro e w2 ⟨rfl, b2⟩
    have c2 : Below w1.heap.size w1 w2 := Below.trans (by (repeat (first | with_reducible exact Below.refl _ _ | with_reducible exact Nat.le_refl _ | with_reducible assumption | with_reducible refine Below.drew ?_ | with_reducible refine below_drewN ?_ _ | with_reducible refine Below.alloc ?_ ?_ _ | with_reducible refine Below.setCell ?_ ?_ _ | with_reducible exact And.right (by assumption) | with_reducible refine Below.trans ?_ (Below.mono (by assumption) ?_) | with_reducible exact Below.size (And.right (by assumption)) | (focus omega) | (focus (simp; done)) | (focus (simp; omega)) | (focus (simp at *; omega))))) (b2.mono (by first | exact Nat.le_refl _ | omega | (simp; done) | (simp; omega)))
    have s2 := c2.size
    have bb2 := H_bb1.out.trans (c2.mono H_bb1.out.size)
    have t2 := H_t1.out.below c2
    have k2 := H_k1.out.below c2
    have H_b2 := Lib.hid b2; clear b2; have H_c2 := Lib.hid c2; clear c2; have H_bb2 := Lib.hid bb2; clear bb2; have H_t2 := Lib.hid t2; clear t2; have H_k2 := Lib.hid k2; clear k2
    have y0 := (H_k2.out 0 _ rfl).at
    have y1 := (H_k2.out 1 _ rfl).at
    have y2 := (H_k2.out 2 _ rfl).at
    have y3 := (H_k2.out 3 _ rfl).at
    have y4 := (H_k2.out 4 _ rfl).at
    have y5 := (H_k2.out 5 _ rfl).at
    have y6 := (H_k2.out 6 _ rfl).at
    have y7 := (H_k2.out 7 _ rfl).at
    have y8 := (H_k2.out 8 _ rfl).at
    go_wp2_with fail
    (with_reducible refine (H_q2.out _ ?_).mono ?_)
    · exact H_t2.out.below (show Below w2.heap.size w2 _ by (repeat (first | with_reducible exact Below.refl _ _ | with_reducible exact Nat.le_refl _ | with_reducible assumption | with_reducible refine Below.drew ?_ | with_reducible refine below_drewN ?_ _ | with_reducible refine Below.alloc ?_ ?_ _ | with_reducible refine Below.setCell ?_ ?_ _ | with_reducible exact And.right (by assumption) | with_reducible refine Below.trans ?_ (Below.mono (by assumption) ?_) | with_reducible exact Below.size (And.right (by assumption)) | (focus omega) | (focus (simp; done)) | (focus (simp; omega)) | (focus (simp at *; omega)))))
    rintro e w3 ⟨rfl, b3⟩
    have c3 : Below w2.heap.size w2 w3 := Below.trans (by (repeat (first | with_reducible exact Below.refl _ _ | with_reducible exact Nat.le_refl _ | with_reducible assumption | with_reducible refine Below.drew ?_ | with_reducible refine below_drewN ?_ _ | with_reducible refine Below.alloc ?_ ?_ _ | with_reducible refine Below.setCell ?_ ?_ _ | with_reducible exact And.right (by assumption) | with_reducible refine Below.trans ?_ (Below.mono (by assumption) ?_) | with_reducible exact Below.size (And.right (by assumption)) | (focus omega) | (focus (simp; done)) | (focus (simp; omega)) | (focus (simp at *; omega))))) (b3.mono (by first | exact Nat.le_refl _ | omega | (simp; done) | (simp; omega)))
    have s3 := c3.size
    have bb3 := H_bb2.out.trans (c3.mono H_bb2.out.size)
    have t3 := H_t2.out.below c3
    have H_b3 := Lib.hid b3; clear b3; have H_c3 := Lib.hid c3; clear c3; have H_bb3 := Lib.hid bb3; clear bb3; have H_t3 := Lib.hid t3; clear t3
    clear y0 y1 y2 y3 y4 y5 y6 y7 y8
    have d3 : Blk (w3.alloc (.cells #[.int .i64 c.i, .int .i64 c.k, .int .i64 c.d, .int .i64 c.n, .int .i64 c.f, .int .i64 c.u, .int .i64 c.l, .int .i64 E, .int .i64 S] 31)) w3.heap.size #[.int .i64 c.i, .int .i64 c.k, .int .i64 c.d, .int .i64 c.n, .int .i64 c.f, .int .i64 c.u, .int .i64 c.l, .int .i64 E, .int .i64 S] := blk_new rfl
    have H_d3 := Lib.hid d3; clear d3
    go_wp2_with fail
    (with_reducible refine (H_q4.out _).mono ?_)
    rintro e w4 ⟨rfl, b4⟩
    have c4 : Below w3.heap.size w3 w4 := Below.trans (by (repeat (first | with_reducible exact Below.refl _ _ | with_reducible exact Nat.le_refl _ | with_reducible assumption | with_reducible refine Below.drew ?_ | with_reducible refine below_drewN ?_ _ | with_reducible refine Below.alloc ?_ ?_ _ | with_reducible refine Below.setCell ?_ ?_ _ | with_reducible exact And.right (by assumption) | with_reducible refine Below.trans ?_ (Below.mono (by assumption) ?_) | with_reducible exact Below.size (And.right (by assumption)) | (focus omega) | (focus (simp; done)) | (focus (simp; omega)) | (focus (simp at *; omega))))) (b4.mono (by first | exact Nat.le_refl _ | omega | (simp; done) | (simp; omega)))
    have s4 := c4.size
    have bb4 := H_bb3.out.trans (c4.mono H_bb3.out.size)
    have t4 := H_t3.out.below c4
    have H_b4 := Lib.hid b4; clear b4; have H_c4 := Lib.hid c4; clear c4; have H_bb4 := Lib.hid bb4; clear bb4; have H_t4 := Lib.hid t4; clear t4
    have d4 := H_d3.out.below H_b4.out
    have H_d4 := Lib.hid d4; clear d4
    have y0 := (H_d4.out 0 _ rfl).at
    have y1 := (H_d4.out 1 _ rfl).at
    have y2 := (H_d4.out 2 _ rfl).at
    have y3 := (H_d4.out 3 _ rfl).at
    have y4 := (H_d4.out 4 _ rfl).at
    have y5 := (H_d4.out 5 _ rfl).at
    have y6 := (H_d4.out 6 _ rfl).at
    have y7 := (H_d4.out 7 _ rfl).at
    have y8 := (H_d4.out 8 _ rfl).at
    have ld := (H_d4.out 0 _ rfl).lt
    have ff0 := (H_d4.out 0 _ rfl).free; have ff1 := (H_d4.out 1 _ rfl).free; have ff2 := (H_d4.out 2 _ rfl).free; have ff3 := (H_d4.out 3 _ rfl).free; have ff4 := (H_d4.out 4 _ rfl).free; have ff5 := (H_d4.out 5 _ rfl).free; have ff6 := (H_d4.out 6 _ rfl).free
    go_upto_region 21 with (fail)
    all_goals
      first
      | (obtain ⟨w5, hw5⟩ : ∃ W, w4.setCell ⟨w3.heap.size, 0, none⟩ (.int .i64 (wrap64 (c.i + by_))) = W := ⟨_, rfl⟩
         rw [hw5]
         have hy : ∃ y, Chg w3 w5 w3.heap.size E S y := ⟨⟨wrap64 (c.i + by_), c.k, c.d, c.n, c.f, c.u, c.l, E, S⟩, cfit_mk (wrap_int _) H_hc.out.k H_hc.out.d H_hc.out.n H_hc.out.f H_hc.out.u H_hc.out.l H_hfx.out.e H_hfx.out.s, rfl, rfl, by rw [← hw5]; exact H_d4.out.set 0 _ (by simp), by rw [← hw5]; exact below_set H_c4.out (Nat.le_refl _) _ _⟩)
      | (obtain ⟨w5, hw5⟩ : ∃ W, w4.setCell ⟨w3.heap.size, 1, none⟩ (.int .i64 (wrap64 (c.k + by_))) = W := ⟨_, rfl⟩
         rw [hw5]
         have hy : ∃ y, Chg w3 w5 w3.heap.size E S y := ⟨⟨c.i, wrap64 (c.k + by_), c.d, c.n, c.f, c.u, c.l, E, S⟩, cfit_mk H_hc.out.i (wrap_int _) H_hc.out.d H_hc.out.n H_hc.out.f H_hc.out.u H_hc.out.l H_hfx.out.e H_hfx.out.s, rfl, rfl, by rw [← hw5]; exact H_d4.out.set 1 _ (by simp), by rw [← hw5]; exact below_set H_c4.out (Nat.le_refl _) _ _⟩)
      | (obtain ⟨w5, hw5⟩ : ∃ W, w4.setCell ⟨w3.heap.size, 2, none⟩ (.int .i64 (wrap64 (c.d + by_))) = W := ⟨_, rfl⟩
         rw [hw5]
         have hy : ∃ y, Chg w3 w5 w3.heap.size E S y := ⟨⟨c.i, c.k, wrap64 (c.d + by_), c.n, c.f, c.u, c.l, E, S⟩, cfit_mk H_hc.out.i H_hc.out.k (wrap_int _) H_hc.out.n H_hc.out.f H_hc.out.u H_hc.out.l H_hfx.out.e H_hfx.out.s, rfl, rfl, by rw [← hw5]; exact H_d4.out.set 2 _ (by simp), by rw [← hw5]; exact below_set H_c4.out (Nat.le_refl _) _ _⟩)
      | (obtain ⟨w5, hw5⟩ : ∃ W, w4.setCell ⟨w3.heap.size, 3, none⟩ (.int .i64 (wrap64 (c.n + by_))) = W := ⟨_, rfl⟩
         rw [hw5]
         have hy : ∃ y, Chg w3 w5 w3.heap.size E S y := ⟨⟨c.i, c.k, c.d, wrap64 (c.n + by_), c.f, c.u, c.l, E, S⟩, cfit_mk H_hc.out.i H_hc.out.k H_hc.out.d (wrap_int _) H_hc.out.f H_hc.out.u H_hc.out.l H_hfx.out.e H_hfx.out.s, rfl, rfl, by rw [← hw5]; exact H_d4.out.set 3 _ (by simp), by rw [← hw5]; exact below_set H_c4.out (Nat.le_refl _) _ _⟩)
      | (obtain ⟨w5, hw5⟩ : ∃ W, w4.setCell ⟨w3.heap.size, 4, none⟩ (.int .i64 (wrap64 (c.f + by_))) = W := ⟨_, rfl⟩
         rw [hw5]
         have hy : ∃ y, Chg w3 w5 w3.heap.size E S y := ⟨⟨c.i, c.k, c.d, c.n, wrap64 (c.f + by_), c.u, c.l, E, S⟩, cfit_mk H_hc.out.i H_hc.out.k H_hc.out.d H_hc.out.n (wrap_int _) H_hc.out.u H_hc.out.l H_hfx.out.e H_hfx.out.s, rfl, rfl, by rw [← hw5]; exact H_d4.out.set 4 _ (by simp), by rw [← hw5]; exact below_set H_c4.out (Nat.le_refl _) _ _⟩)
      | (obtain ⟨w5, hw5⟩ : ∃ W, w4.setCell ⟨w3.heap.size, 5, none⟩ (.int .i64 (wrap64 (c.u + by_))) = W := ⟨_, rfl⟩
         rw [hw5]
         have hy : ∃ y, Chg w3 w5 w3.heap.size E S y := ⟨⟨c.i, c.k, c.d, c.n, c.f, wrap64 (c.u + by_), c.l, E, S⟩, cfit_mk H_hc.out.i H_hc.out.k H_hc.out.d H_hc.out.n H_hc.out.f (wrap_int _) H_hc.out.l H_hfx.out.e H_hfx.out.s, rfl, rfl, by rw [← hw5]; exact H_d4.out.set 5 _ (by simp), by rw [← hw5]; exact below_set H_c4.out (Nat.le_refl _) _ _⟩)
      | (obtain ⟨w5, hw5⟩ : ∃ W, w4.setCell ⟨w3.heap.size, 6, none⟩ (.int .i64 (wrap64 (c.l + by_))) = W := ⟨_, rfl⟩
         rw [hw5]
         have hy : ∃ y, Chg w3 w5 w3.heap.size E S y := ⟨⟨c.i, c.k, c.d, c.n, c.f, c.u, wrap64 (c.l + by_), E, S⟩, cfit_mk H_hc.out.i H_hc.out.k H_hc.out.d H_hc.out.n H_hc.out.f H_hc.out.u (wrap_int _) H_hfx.out.e H_hfx.out.s, rfl, rfl, by rw [← hw5]; exact H_d4.out.set 6 _ (by simp), by rw [← hw5]; exact below_set H_c4.out (Nat.le_refl _) _ _⟩)
      | (exfalso; omega)
    all_goals
      obtain ⟨y, hyf, hyE, hyS, z5, y5⟩ := hy
      unfold Crd.cells at z5
      have t5 := H_t3.out.below y5
      have bb5 := H_bb3.out.trans (y5.mono H_bb3.out.size)
      have l5 := (z5 0 _ rfl).lt
      have hyfm := hyf.msg
      have q5 := fun W h => ccheck_any y (P : Int) hyf W h
      have q6 := fun W => rvalid_any y hyf W
      have q7 := fun W => rmessage_any y W
      have q8 := fun W => rback_any P E S W H_hPlt.out H_hQ1.out H_hQ2.out
      unfold NewInts7 at q7
      rw [← hyE, ← hyS] at q8
      unfold Crd.cells at q5 q6 q7
      clear y0 y1 y2 y3 y4 y5 y6 y7 y8
      clear ff0 ff1 ff2 ff3 ff4 ff5 ff6
      cases hv : cvB y with
      | false =>
        have e1 : chkB y P = false := by simp [chkB, hv]
        have e2 : chkE y P = 1 := by simp [chkE, hv]
        rw [e1, e2] at q5
        rw [hv] at q6
        clear q7 q8
        have H_q5 := Lib.hid q5; clear q5; have H_q6 := Lib.hid q6; clear q6; have H_t5 := Lib.hid t5; clear t5; have H_bb5 := Lib.hid bb5; clear bb5; have H_z5 := Lib.hid z5; clear z5; have H_y5 := Lib.hid y5; clear y5; have H_hyf := Lib.hid hyf; clear hyf; have H_hyE := Lib.hid hyE; clear hyE; have H_hyS := Lib.hid hyS; clear hyS; have H_hyfm := Lib.hid hyfm; clear hyfm; have H_e1 := Lib.hid e1; clear e1; have H_e2 := Lib.hid e2; clear e2; have H_hv := Lib.hid hv; clear hv; have H_hw5 := Lib.hid hw5; clear hw5
        have v0 := (H_z5.out 0 _ rfl).at
        have v1 := (H_z5.out 1 _ rfl).at
        have v2 := (H_z5.out 2 _ rfl).at
        have v3 := (H_z5.out 3 _ rfl).at
        have v4 := (H_z5.out 4 _ rfl).at
        have v5 := (H_z5.out 5 _ rfl).at
        have v6 := (H_z5.out 6 _ rfl).at
        have v7 := (H_z5.out 7 _ rfl).at
        have v8 := (H_z5.out 8 _ rfl).at
        go_wp2_with fail
        (with_reducible refine (H_q5.out _ ?_).mono ?_)
        · exact H_t5.out.below (show Below w5.heap.size w5 _ by (repeat (first | with_reducible exact Below.refl _ _ | with_reducible exact Nat.le_refl _ | with_reducible assumption | with_reducible refine Below.drew ?_ | with_reducible refine below_drewN ?_ _ | with_reducible refine Below.alloc ?_ ?_ _ | with_reducible refine Below.setCell ?_ ?_ _ | with_reducible exact And.right (by assumption) | with_reducible refine Below.trans ?_ (Below.mono (by assumption) ?_) | with_reducible exact Below.size (And.right (by assumption)) | (focus omega) | (focus (simp; done)) | (focus (simp; omega)) | (focus (simp at *; omega)))))
        rintro e w6 ⟨rfl, b6⟩
        have c6 : Below w5.heap.size w5 w6 := Below.trans (by (repeat (first | with_reducible exact Below.refl _ _ | with_reducible exact Nat.le_refl _ | with_reducible assumption | with_reducible refine Below.drew ?_ | with_reducible refine below_drewN ?_ _ | with_reducible refine Below.alloc ?_ ?_ _ | with_reducible refine Below.setCell ?_ ?_ _ | with_reducible exact And.right (by assumption) | with_reducible refine Below.trans ?_ (Below.mono (by assumption) ?_) | with_reducible exact Below.size (And.right (by assumption)) | (focus omega) | (focus (simp; done)) | (focus (simp; omega)) | (focus (simp at *; omega))))) (b6.mono (by first | exact Nat.le_refl _ | omega | (simp; done) | (simp; omega)))
        have s6 := c6.size
        have bb6 := H_bb5.out.trans (c6.mono H_bb5.out.size)
        have z6 := H_z5.out.below c6
        have H_b6 := Lib.hid b6; clear b6; have H_c6 := Lib.hid c6; clear c6; have H_bb6 := Lib.hid bb6; clear bb6; have H_z6 := Lib.hid z6; clear z6
        clear v0 v1 v2 v3 v4 v5 v6 v7 v8
        have v0 := (H_z6.out 0 _ rfl).at
        have v1 := (H_z6.out 1 _ rfl).at
        have v2 := (H_z6.out 2 _ rfl).at
        have v3 := (H_z6.out 3 _ rfl).at
        have v4 := (H_z6.out 4 _ rfl).at
        have v5 := (H_z6.out 5 _ rfl).at
        have v6 := (H_z6.out 6 _ rfl).at
        have v7 := (H_z6.out 7 _ rfl).at
        have v8 := (H_z6.out 8 _ rfl).at
        go_wp2_with fail
        (with_reducible refine (H_q6.out _).mono ?_)
        rintro e w7 ⟨rfl, b7⟩
        have c7 : Below w6.heap.size w6 w7 := Below.trans (by (repeat (first | with_reducible exact Below.refl _ _ | with_reducible exact Nat.le_refl _ | with_reducible assumption | with_reducible refine Below.drew ?_ | with_reducible refine below_drewN ?_ _ | with_reducible refine Below.alloc ?_ ?_ _ | with_reducible refine Below.setCell ?_ ?_ _ | with_reducible exact And.right (by assumption) | with_reducible refine Below.trans ?_ (Below.mono (by assumption) ?_) | with_reducible exact Below.size (And.right (by assumption)) | (focus omega) | (focus (simp; done)) | (focus (simp; omega)) | (focus (simp at *; omega))))) (b7.mono (by first | exact Nat.le_refl _ | omega | (simp; done) | (simp; omega)))
        have s7 := c7.size
        have bb7 := H_bb6.out.trans (c7.mono H_bb6.out.size)
        have H_b7 := Lib.hid b7; clear b7; have H_c7 := Lib.hid c7; clear c7; have H_bb7 := Lib.hid bb7; clear bb7
        go_wp2_with fail
        go_ret
        exact ⟨rfl, H_bb7.out⟩
      | true =>
        have e2 : chkE y P = 0 := by simp [chkE, hv, H_hmP.out]
        have e1 : chkB y P = (((chN ((backN P E S : Nat) :: (P : Int) :: y.msg) : Nat) : Int) == y.e) := by
          rw [chkB, hv, H_hmP.out, hyE, hyS, nat_beq, Bool.eq_iff_iff]
          simp only [Bool.true_and, rightB, Int.toNat_natCast, beq_iff_eq]
          exact eq_comm
        have hPi : -9223372036854775808 ≤ (P : Int) ∧ (P : Int) ≤ 9223372036854775807 := by have := H_hPlt.out; have hpp : PP = 2147483579 := rfl; omega
        have hBi : -9223372036854775808 ≤ ((backN P E S : Nat) : Int) ∧ ((backN P E S : Nat) : Int) ≤ 9223372036854775807 := by have := backN_lt P E S; have hpp : PP = 2147483579 := rfl; omega
        have q9 := fun W X c9 (h : IntsAt W X .i64 ([((backN P E S : Nat) : Int), (P : Int)] ++ y.msg)) => rchal_any X c9 9 _ rfl W h (by omega) (fit_cons hBi (fit_cons hPi hyfm))
        have hM7 : y.msg.length = 7 := rfl
        rw [e1, e2] at q5
        simp only [List.cons_append, List.nil_append] at q9
        generalize ((chN ((backN P E S : Nat) :: (P : Int) :: y.msg) : Nat) : Int) = C at *
        generalize ((backN P E S : Nat) : Int) = Bk at *
        generalize y.msg = M at *
        clear q6
        obtain ⟨i0, hi, hz0, hz1, hz2⟩ := info_parts infoI64
        generalize hX : (C == y.e) = X at *
        have H_q5 := Lib.hid q5; clear q5; have H_q7 := Lib.hid q7; clear q7; have H_q8 := Lib.hid q8; clear q8; have H_q9 := Lib.hid q9; clear q9; have H_t5 := Lib.hid t5; clear t5; have H_bb5 := Lib.hid bb5; clear bb5; have H_z5 := Lib.hid z5; clear z5; have H_y5 := Lib.hid y5; clear y5; have H_hyf := Lib.hid hyf; clear hyf; have H_hyE := Lib.hid hyE; clear hyE; have H_hyS := Lib.hid hyS; clear hyS; have H_hyfm := Lib.hid hyfm; clear hyfm; have H_e1 := Lib.hid e1; clear e1; have H_e2 := Lib.hid e2; clear e2; have H_hv := Lib.hid hv; clear hv; have H_hw5 := Lib.hid hw5; clear hw5; have H_hPi := Lib.hid hPi; clear hPi; have H_hBi := Lib.hid hBi; clear hBi; have H_hM7 := Lib.hid hM7; clear hM7
        have v0 := (H_z5.out 0 _ rfl).at
        have v1 := (H_z5.out 1 _ rfl).at
        have v2 := (H_z5.out 2 _ rfl).at
        have v3 := (H_z5.out 3 _ rfl).at
        have v4 := (H_z5.out 4 _ rfl).at
        have v5 := (H_z5.out 5 _ rfl).at
        have v6 := (H_z5.out 6 _ rfl).at
        have v7 := (H_z5.out 7 _ rfl).at
        have v8 := (H_z5.out 8 _ rfl).at
        go_wp2_with fail
        (with_reducible refine (H_q5.out _ ?_).mono ?_)
        · exact H_t5.out.below (show Below w5.heap.size w5 _ by (repeat (first | with_reducible exact Below.refl _ _ | with_reducible exact Nat.le_refl _ | with_reducible assumption | with_reducible refine Below.drew ?_ | with_reducible refine below_drewN ?_ _ | with_reducible refine Below.alloc ?_ ?_ _ | with_reducible refine Below.setCell ?_ ?_ _ | with_reducible exact And.right (by assumption) | with_reducible refine Below.trans ?_ (Below.mono (by assumption) ?_) | with_reducible exact Below.size (And.right (by assumption)) | (focus omega) | (focus (simp; done)) | (focus (simp; omega)) | (focus (simp at *; omega)))))
        rintro e w6 ⟨rfl, b6⟩
        have c6 : Below w5.heap.size w5 w6 := Below.trans (by (repeat (first | with_reducible exact Below.refl _ _ | with_reducible exact Nat.le_refl _ | with_reducible assumption | with_reducible refine Below.drew ?_ | with_reducible refine below_drewN ?_ _ | with_reducible refine Below.alloc ?_ ?_ _ | with_reducible refine Below.setCell ?_ ?_ _ | with_reducible exact And.right (by assumption) | with_reducible refine Below.trans ?_ (Below.mono (by assumption) ?_) | with_reducible exact Below.size (And.right (by assumption)) | (focus omega) | (focus (simp; done)) | (focus (simp; omega)) | (focus (simp at *; omega))))) (b6.mono (by first | exact Nat.le_refl _ | omega | (simp; done) | (simp; omega)))
        have s6 := c6.size
        have bb6 := H_bb5.out.trans (c6.mono H_bb5.out.size)
        have z6 := H_z5.out.below c6
        have H_b6 := Lib.hid b6; clear b6; have H_c6 := Lib.hid c6; clear c6; have H_bb6 := Lib.hid bb6; clear bb6; have H_z6 := Lib.hid z6; clear z6
        clear v0 v1 v2 v3 v4 v5 v6 v7 v8
        have v0 := (H_z6.out 0 _ rfl).at
        have v1 := (H_z6.out 1 _ rfl).at
        have v2 := (H_z6.out 2 _ rfl).at
        have v3 := (H_z6.out 3 _ rfl).at
        have v4 := (H_z6.out 4 _ rfl).at
        have v5 := (H_z6.out 5 _ rfl).at
        have v6 := (H_z6.out 6 _ rfl).at
        have v7 := (H_z6.out 7 _ rfl).at
        have v8 := (H_z6.out 8 _ rfl).at
        have l6 := (H_z6.out 0 _ rfl).lt
        go_upto_region 24 with (fail)
        go_cut [18] from 114 to 122 (fun c18 wx => ∃ (A9 : Option Addr) (p9 : Nat), c18 = .slice A9 9 p9 ∧ IntsAt wx A9 .i64 (Bk :: (P : Int) :: M) ∧ Below w6.heap.size w6 wx)
        case first =>
          go_region_held3 (fun W => (∀ b o, b < w6.heap.size → W.cell? ⟨b, o, none⟩ = w6.cell? ⟨b, o, none⟩) ∧ Below w6.heap.size w6 W) (first | (refine ext_mk ?_; (repeat (first | with_reducible exact Below.refl _ _ | with_reducible exact Nat.le_refl _ | with_reducible assumption | with_reducible refine Below.drew ?_ | with_reducible refine below_drewN ?_ _ | with_reducible refine Below.alloc ?_ ?_ _ | with_reducible refine Below.setCell ?_ ?_ _ | with_reducible exact And.right (by assumption) | with_reducible refine Below.trans ?_ (Below.mono (by assumption) ?_) | with_reducible exact Below.size (And.right (by assumption)) | (focus omega) | (focus (simp; done)) | (focus (simp; omega)) | (focus (simp at *; omega)))))) (first | (go_at_call 21; (with_reducible refine (H_q8.out _).mono ?_); rintro e w7 ⟨rfl, hbw7⟩; have gw7 := Below.trans (And.right (by assumption : _ ∧ Below w6.heap.size w6 _)) (hbw7.mono (Below.size (And.right (by assumption : _ ∧ Below w6.heap.size w6 _)))); have gsw7 := gw7.size; have hcf := bcell hbw7; have hcw7 := hcf.1; have hfw7 := hcf.2; have hsw7 := hbw7.size; (try simp only [World.size_alloc, World.heap_drewN, heap_drew] at hsw7); have H_hbw7 := Lib.hid hbw7; clear hbw7 hcf; (try have hzw7 : w6.heap.size < w7.heap.size := by omega)) | (go_at_call 22; (with_reducible refine (H_q7.out _).mono ?_); rintro e w8 ⟨b8, rfl, hi8, hlo8, hbw8⟩; have gw8 := Below.trans (And.right (by assumption : _ ∧ Below w6.heap.size w6 _)) (hbw8.mono (Below.size (And.right (by assumption : _ ∧ Below w6.heap.size w6 _)))); have gsw8 := gw8.size; have hcf := bcell hbw8; have hcw8 := hcf.1; have hfw8 := hcf.2; have hsw8 := hbw8.size; (try simp only [World.size_alloc, World.heap_drewN, heap_drew] at hsw8); have H_hbw8 := Lib.hid hbw8; clear hbw8 hcf; (try have hzw8 : w6.heap.size < w8.heap.size := by omega)) | (revert H_hbw8; intro H_hbw8; revert H_hbw7; intro H_hbw7; have h8 : Below (w7.alloc (.cells #[.int .i64 Bk, .int .i64 (P : Int)] 3)).heap.size (w7.alloc (.cells #[.int .i64 Bk, .int .i64 (P : Int)] 3)) w8 := H_hbw8.out; refine step_app_at _ (by rfl) (.tmp 119) (.tmp 121) _ (by rfl) w7.heap.size 3 i0 _ 8 Tryd.underlying45 hi hz0 hz1 hz2 rfl .i64 (some ⟨w7.heap.size, 0, none⟩) 2 2 [Bk, (P : Int)] rfl (by rfl) (by exact (own_lit (w := w7) [Bk, (P : Int)] (Nat.le_refl _) (by simp) _ rfl).below h8) (some ⟨b8, 0, none⟩) 7 7 M H_hM7.out (by rfl) (by exact hi8) (by omega) (by omega) (by first | omega | (simp; done) | (simp; omega)) ?_; intro A9 p9 w9 oA gA hA; have bA : Below w6.heap.size w6 w9 := gw7.trans ((OwnInts.grow (w0 := w7) ((own_lit (w := w7) [Bk, (P : Int)] (Nat.le_refl _) (by simp) _ rfl).below h8) (Below.trans ((Below.refl _ _).alloc (Nat.le_refl _) _) (h8.mono (by simp))) gA).mono gw7.size); have hi9 := oA.ints; clear oA gA hA) | (revert H_hbw8; intro H_hbw8; revert H_hbw7; intro H_hbw7; have h8 : Below w7.heap.size w7 w8 := H_hbw8.out; refine step_app_at _ (by rfl) (.tmp 119) (.tmp 121) _ (by rfl) w8.heap.size 3 i0 _ 8 Tryd.underlying45 hi hz0 hz1 hz2 rfl .i64 (some ⟨w8.heap.size, 0, none⟩) 2 2 [Bk, (P : Int)] rfl (by rfl) (by exact own_lit (w := w8) [Bk, (P : Int)] (Nat.le_refl _) (by simp) _ rfl) (some ⟨b8, 0, none⟩) 7 7 M H_hM7.out (by rfl) (by exact hi8.alloc _) (by omega) (by omega) (by first | omega | (simp; done) | (simp; omega)) ?_; intro A9 p9 w9 oA gA hA; have bA : Below w6.heap.size w6 w9 := gw8.trans ((OwnInts.grow (w0 := w8) (own_lit (w := w8) [Bk, (P : Int)] (Nat.le_refl _) (by simp) _ rfl) ((Below.refl _ _).alloc (Nat.le_refl _) _) gA).mono gw8.size); have hi9 := oA.ints; clear oA gA hA) | (revert H_hbw8; intro H_hbw8; revert H_hbw7; intro H_hbw7; have h7 : Below w8.heap.size w8 w7 := H_hbw7.out; refine step_app_at _ (by rfl) (.tmp 119) (.tmp 121) _ (by rfl) w7.heap.size 3 i0 _ 8 Tryd.underlying45 hi hz0 hz1 hz2 rfl .i64 (some ⟨w7.heap.size, 0, none⟩) 2 2 [Bk, (P : Int)] rfl (by rfl) (by exact own_lit (w := w7) [Bk, (P : Int)] (Nat.le_refl _) (by simp) _ rfl) (some ⟨b8, 0, none⟩) 7 7 M H_hM7.out (by rfl) (by exact (hi8.below h7).alloc _) (by omega) (by omega) (by first | omega | (simp; done) | (simp; omega)) ?_; intro A9 p9 w9 oA gA hA; have bA : Below w6.heap.size w6 w9 := gw7.trans ((OwnInts.grow (w0 := w7) (own_lit (w := w7) [Bk, (P : Int)] (Nat.le_refl _) (by simp) _ rfl) ((Below.refl _ _).alloc (Nat.le_refl _) _) gA).mono gw7.size); have hi9 := oA.ints; clear oA gA hA) | fail)
          all_goals
            go_wp2_with fail
            have H_hi9 := Lib.hid hi9; clear hi9; have H_bA := Lib.hid bA; clear bA
            go_meet
            case rel => exact ⟨A9, p9, rfl, H_hi9.out, H_bA.out⟩
        case rest =>
          obtain ⟨A9, p9, rfl, hi9, c9⟩ := hcut
          obtain ⟨w9, hw9⟩ : ∃ W, wc = W := ⟨_, rfl⟩
          rw [hw9] at hi9 c9 ⊢
          have z9 := H_z6.out.below c9
          have bb9 := H_bb6.out.trans (c9.mono H_bb6.out.size)
          clear v0 v1 v2 v3 v4 v5 v6 v7 v8
          have H_hi9 := Lib.hid hi9; clear hi9; have H_c9 := Lib.hid c9; clear c9; have H_z9 := Lib.hid z9; clear z9; have H_bb9 := Lib.hid bb9; clear bb9; have H_hw9 := Lib.hid hw9; clear hw9
          have v0 := (H_z9.out 0 _ rfl).at
          have v1 := (H_z9.out 1 _ rfl).at
          have v2 := (H_z9.out 2 _ rfl).at
          have v3 := (H_z9.out 3 _ rfl).at
          have v4 := (H_z9.out 4 _ rfl).at
          have v5 := (H_z9.out 5 _ rfl).at
          have v6 := (H_z9.out 6 _ rfl).at
          have v7 := (H_z9.out 7 _ rfl).at
          have v8 := (H_z9.out 8 _ rfl).at
          have l9 := (H_z9.out 0 _ rfl).lt
          go_wp2_with fail
          cases X
          all_goals
            go_region_held3 (fun W => (∀ b o, b < w9.heap.size → W.cell? ⟨b, o, none⟩ = w9.cell? ⟨b, o, none⟩) ∧ Below w9.heap.size w9 W) (first | (refine ext_mk ?_; (repeat (first | with_reducible exact Below.refl _ _ | with_reducible exact Nat.le_refl _ | with_reducible assumption | with_reducible refine Below.drew ?_ | with_reducible refine below_drewN ?_ _ | with_reducible refine Below.alloc ?_ ?_ _ | with_reducible refine Below.setCell ?_ ?_ _ | with_reducible exact And.right (by assumption) | with_reducible refine Below.trans ?_ (Below.mono (by assumption) ?_) | with_reducible exact Below.size (And.right (by assumption)) | (focus omega) | (focus (simp; done)) | (focus (simp; omega)) | (focus (simp at *; omega)))))) ((go_at_call 23; (with_reducible refine (H_q9.out _ _ _ ?_).mono ?_); (focus (exact H_hi9.out.below (And.right (by assumption : _ ∧ Below w9.heap.size w9 _)))); rintro e w10 ⟨rfl, hbw10⟩; have gw10 := Below.trans (And.right (by assumption : _ ∧ Below w9.heap.size w9 _)) (hbw10.mono (Below.size (And.right (by assumption : _ ∧ Below w9.heap.size w9 _)))); have gsw10 := gw10.size; have hcf := bcell hbw10; have hcw10 := hcf.1; have hfw10 := hcf.2; have hsw10 := hbw10.size; (try simp only [World.size_alloc, World.heap_drewN, heap_drew] at hsw10); clear hbw10 hcf; (try have hzw10 : w9.heap.size < w10.heap.size := by omega)))
            all_goals
              have gF : Below w9.heap.size w9 w10 := And.right (by assumption)
              have H_gF := Lib.hid gF; clear gF
              go_wp2_with fail
              go_ret
              exact ⟨rfl, H_bb9.out.trans (H_gF.out.mono H_bb9.out.size)⟩
end Go.Proofs.YtoehobaigfmnpaaDoor

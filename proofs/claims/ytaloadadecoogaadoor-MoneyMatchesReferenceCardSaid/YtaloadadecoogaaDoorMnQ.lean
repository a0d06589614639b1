/- Contract of package innkeeperref06: Valid. -/
import Derived.Test.YtaloadadecoogaaDoorMnO
namespace Go.Proofs.YtaloadadecoogaaDoor
set_option linter.unusedSimpArgs false
set_option linter.unusedVariables false
set_option maxRecDepth 100000
open Go.RowKit Go.Maps

theorem tab_dup {l : List Exc} {x y : Exc} {i j : Nat} (hi : l[i]? = some x) (hj : l[j]? = some y) (hne : j < i) (h : y.f = x.f ∧ y.t = x.t) : tabB l = false := by
  rw [Bool.eq_false_iff]; intro e
  simp only [tabB, Bool.and_eq_true, decide_eq_true_eq] at e
  have nd := e.1.2
  have h1 : (l.map keyX)[i]? = some (keyX x) := by rw [List.getElem?_map, hi]; rfl
  have h2 : (l.map keyX)[j]? = some (keyX y) := by rw [List.getElem?_map, hj]; rfl
  have e2 : keyX y = keyX x := by rw [keyX, keyX, h.1, h.2]
  obtain ⟨b1, g1⟩ := List.getElem?_eq_some_iff.1 h1
  obtain ⟨b2, g2⟩ := List.getElem?_eq_some_iff.1 h2
  exact List.pairwise_iff_getElem.1 nd j i b2 b1 hne (by rw [g1, g2, e2])
theorem tab_long {l : List Exc} (h : 30 < l.length) : tabB l = false := by
  rw [Bool.eq_false_iff]; intro e
  simp only [tabB, Bool.and_eq_true, decide_eq_true_eq] at e
  omega
theorem tab_yes {l : List Exc} (h1 : ∀ x ∈ l, excB x = true) (h2 : (l.map keyX).Nodup) (h3 : l.length ≤ 30) : tabB l = true := by
  simp only [tabB, Bool.and_eq_true, decide_eq_true_eq, List.all_eq_true]
  exact ⟨⟨h1, h2⟩, h3⟩
theorem keys_snoc {l : List Exc} {k : Nat} {x : Exc} (hx : l[k]? = some x) (h : ((l.take k).map keyX).Nodup) (hn : ∀ y ∈ l.take k, ¬ (y.f = x.f ∧ y.t = x.t)) : ((l.take (k + 1)).map keyX).Nodup := by
  have e : l.take (k + 1) = l.take k ++ [x] := by rw [List.take_add_one, hx]; rfl
  rw [e, List.map_append, List.nodup_append]
  refine ⟨h, by simp, ?_⟩
  intro a ha b hb
  obtain ⟨y, hy, rfl⟩ := List.mem_map.1 ha
  rw [List.map_singleton, List.mem_singleton] at hb
  subst hb
  intro e2
  simp only [keyX, Prod.mk.injEq] at e2
  exact hn y hy e2
theorem take_all_snoc {α : Type} {P : α → Prop} {l : List α} {k : Nat} {x : α} (hx : l[k]? = some x) (h : ∀ y ∈ l.take k, P y) (h1 : P x) : ∀ y ∈ l.take (k + 1), P y := fun y hy => by
  rw [List.take_add_one, hx] at hy
  rcases List.mem_append.1 hy with hy | hy
  · exact h y hy
  · have : y = x := by simpa using hy
    rw [this]; exact h1
set_option maxHeartbeats 8000000 in
theorem rvalid_any (A : Option Addr) (cp n : Nat) (l : List Exc) (hln : l.length = n) (hn : n ≤ 100000) (w : World) (hl : Excs w A l) :
    Calls Tryd.prog 13 #[.slice A n cp] w fun e w' => e = .returned (.bool (tabB l)) ∧ Below w.heap.size w w' := by
  have H_hl := Lib.hid hl; clear hl; have H_hln := Lib.hid hln; clear hln
  go_enter Tryd.func13, Tryd.ntmps13
  go_wp2_with fail
  go_loopw [3] (fun i wr => ∃ k : Nat, k ≤ n ∧ i = .int .i64 k ∧ (∀ x ∈ l.take k, excB x = true) ∧ ((l.take k).map keyX).Nodup ∧ k ≤ 30 ∧ Below w.heap.size w wr) (fun i _ => n - (intOf i).toNat)
  case atStart => exact ⟨0, by omega, rfl, fun x hx => by simp at hx, by simp, by omega, Below.refl _ _⟩
  case round =>
    obtain ⟨k, hk, rfl, hall, hnd, hk30, hbw⟩ := hrel
    by_cases hlt : k < n
    · have g1 : (k : Int) < (n : Int) := by omega
      have g0 : (0 : Int) ≤ (k : Int) := by omega
      have hk9 : (k : Int) < 100000 := by omega
      obtain ⟨x, hx5⟩ : ∃ x, l[k]? = some x := ⟨_, List.getElem?_eq_getElem (by rw [H_hln.out]; exact hlt)⟩
      have hm : x ∈ l := List.mem_of_getElem? hx5
      have rw5 := H_hl.out.below hbw
      obtain ⟨b, off, rfl, hbl, hf, e0, e1, e2, e3⟩ := rw5.at hx5
      have qf := fun W => rcurrency_any x.f W
      have qt := fun W => rcurrency_any x.t W
      have qr := fun W => qrat_any x.n x.d (wf_i64 hf.n) (wf_i64 hf.d) W
      have H_hall := Lib.hid hall; clear hall; have H_hnd := Lib.hid hnd; clear hnd; have H_hbw := Lib.hid hbw; clear hbw; have H_rw5 := Lib.hid rw5; clear rw5; have H_hx5 := Lib.hid hx5; clear hx5; have H_hm := Lib.hid hm; clear hm; have H_hf := Lib.hid hf; clear hf; have H_qf := Lib.hid qf; clear qf; have H_qt := Lib.hid qt; clear qt; have H_qr := Lib.hid qr; clear qr
      go_upto_region 5 with (fail)
      clear e0 e1 e2 e3
      obtain ⟨w1, hw1⟩ : ∃ W, wr.alloc (.cells #[.int .i64 x.f, .int .i64 x.t, .int .i64 x.n, .int .i64 x.d] 53) = W := ⟨_, rfl⟩
      rw [hw1]
      have c1 : Below wr.heap.size wr w1 := by rw [← hw1]; exact (Below.refl _ _).alloc (Nat.le_refl _) _
      have x1 : Blk w1 wr.heap.size #[.int .i64 x.f, .int .i64 x.t, .int .i64 x.n, .int .i64 x.d] := by rw [← hw1]; exact blk_new rfl
      have bb1 := H_hbw.out.trans (c1.mono H_hbw.out.size)
      have r1 := H_hl.out.below bb1
      have H_hw1 := Lib.hid hw1; clear hw1; have H_c1 := Lib.hid c1; clear c1; have H_x1 := Lib.hid x1; clear x1; have H_bb1 := Lib.hid bb1; clear bb1; have H_r1 := Lib.hid r1; clear r1
      have y0 := (H_x1.out 0 _ rfl).at
      have y1 := (H_x1.out 1 _ rfl).at
      have y2 := (H_x1.out 2 _ rfl).at
      have y3 := (H_x1.out 3 _ rfl).at
      have ly := (H_x1.out 0 _ rfl).lt
      cases hf1 : curB x.f with
      | false =>
        have no := tab_no H_hm.out (show excB x = false by simp [excB, hf1])
        have q := H_qf.out
        rw [hf1] at q
        have H_no := Lib.hid no; clear no; have H_q := Lib.hid q; clear q; have H_hf1 := Lib.hid hf1; clear hf1
        go_wp2_with fail
        (with_reducible refine (H_q.out _).mono ?_)
        rintro e w_ ⟨rfl, rfl⟩
        go_wp2_with fail
        go_ret
        exact ⟨ret_bool (by rw [H_no.out]), H_bb1.out⟩
      | true =>
        have qa := H_qf.out
        rw [hf1] at qa
        cases ht1 : curB x.t with
        | false =>
          have no := tab_no H_hm.out (show excB x = false by simp [excB, ht1])
          have q := H_qt.out
          rw [ht1] at q
          have H_no := Lib.hid no; clear no; have H_q := Lib.hid q; clear q; have H_qa := Lib.hid qa; clear qa; have H_hf1 := Lib.hid hf1; clear hf1; have H_ht1 := Lib.hid ht1; clear ht1
          go_wp2_with fail
          (with_reducible refine (H_qa.out _).mono ?_)
          rintro e w_ ⟨rfl, rfl⟩
          go_wp2_with fail
          (with_reducible refine (H_q.out _).mono ?_)
          rintro e w_ ⟨rfl, rfl⟩
          go_wp2_with fail
          go_ret
          exact ⟨ret_bool (by rw [H_no.out]), H_bb1.out⟩
        | true =>
          have qb := H_qt.out
          rw [ht1] at qb
          by_cases hft : x.f = x.t
          · have no := tab_no H_hm.out (show excB x = false by simp [excB, hft])
            have i1 : (x.f == x.t) = true := by simp [hft]
            have H_no := Lib.hid no; clear no; have H_qa := Lib.hid qa; clear qa; have H_qb := Lib.hid qb; clear qb; have H_hf1 := Lib.hid hf1; clear hf1; have H_ht1 := Lib.hid ht1; clear ht1; have H_hft := Lib.hid hft; clear hft
            go_wp2_with fail
            (with_reducible refine (H_qa.out _).mono ?_)
            rintro e w_ ⟨rfl, rfl⟩
            go_wp2_with fail
            (with_reducible refine (H_qb.out _).mono ?_)
            rintro e w_ ⟨rfl, rfl⟩
            go_wp2_with fail
            go_ret
            exact ⟨ret_bool (by rw [H_no.out]), H_bb1.out⟩
          have i1 : (x.f == x.t) = false := by simp [hft]
          cases hv : ratB x.n x.d with
          | false =>
            have no := tab_no H_hm.out (show excB x = false by simp [excB, hv])
            have q := H_qr.out
            rw [hv] at q
            have H_no := Lib.hid no; clear no; have H_q := Lib.hid q; clear q; have H_qa := Lib.hid qa; clear qa; have H_qb := Lib.hid qb; clear qb; have H_hf1 := Lib.hid hf1; clear hf1; have H_ht1 := Lib.hid ht1; clear ht1; have H_hft := Lib.hid hft; clear hft; have H_hv := Lib.hid hv; clear hv
            go_wp2_with fail
            (with_reducible refine (H_qa.out _).mono ?_)
            rintro e w_ ⟨rfl, rfl⟩
            go_wp2_with fail
            (with_reducible refine (H_qb.out _).mono ?_)
            rintro e w_ ⟨rfl, rfl⟩
            go_wp2_with fail
            (with_reducible refine (H_q.out _).mono ?_)
            rintro e w2 ⟨rfl, b2⟩
            have c2 : Below w1.heap.size w1 w2 := Below.trans (by (repeat (first | with_reducible exact Below.refl _ _ | with_reducible exact Nat.le_refl _ | with_reducible assumption | with_reducible refine Below.drew ?_ | with_reducible refine below_drewN ?_ _ | with_reducible refine Below.alloc ?_ ?_ _ | with_reducible refine Below.setCell ?_ ?_ _ | with_reducible exact And.right (by assumption) | with_reducible refine Below.trans ?_ (Below.mono (by assumption) ?_) | with_reducible exact Below.size (And.right (by assumption)) | (focus omega) | (focus (simp; done)) | (focus (simp; omega)) | (focus (simp at *; omega))))) (b2.mono (by first | exact Nat.le_refl _ | omega | (simp; done) | (simp; omega)))
            have s2 := c2.size
            have bb2 := H_bb1.out.trans (c2.mono H_bb1.out.size)
            have H_b2 := Lib.hid b2; clear b2; have H_c2 := Lib.hid c2; clear c2; have H_bb2 := Lib.hid bb2; clear bb2
            go_wp2_with fail
            go_ret
            exact ⟨ret_bool (by rw [H_no.out]), H_bb2.out⟩
          | true =>
            have qc := H_qr.out
            rw [hv] at qc
            by_cases hp : x.n ≤ 0
            · have no := tab_no H_hm.out (show excB x = false by have : ¬ 0 < x.n := (by omega); simp [excB, this])
              have i2 : decide (x.n ≤ 0) = true := decide_eq_true hp
              have H_no := Lib.hid no; clear no; have H_qa := Lib.hid qa; clear qa; have H_qb := Lib.hid qb; clear qb; have H_qc := Lib.hid qc; clear qc; have H_hf1 := Lib.hid hf1; clear hf1; have H_ht1 := Lib.hid ht1; clear ht1; have H_hft := Lib.hid hft; clear hft; have H_hv := Lib.hid hv; clear hv; have H_hp := Lib.hid hp; clear hp
              go_wp2_with fail
              (with_reducible refine (H_qa.out _).mono ?_)
              rintro e w_ ⟨rfl, rfl⟩
              go_wp2_with fail
              (with_reducible refine (H_qb.out _).mono ?_)
              rintro e w_ ⟨rfl, rfl⟩
              go_wp2_with fail
              (with_reducible refine (H_qc.out _).mono ?_)
              rintro e w2 ⟨rfl, b2⟩
              have c2 : Below w1.heap.size w1 w2 := Below.trans (by (repeat (first | with_reducible exact Below.refl _ _ | with_reducible exact Nat.le_refl _ | with_reducible assumption | with_reducible refine Below.drew ?_ | with_reducible refine below_drewN ?_ _ | with_reducible refine Below.alloc ?_ ?_ _ | with_reducible refine Below.setCell ?_ ?_ _ | with_reducible exact And.right (by assumption) | with_reducible refine Below.trans ?_ (Below.mono (by assumption) ?_) | with_reducible exact Below.size (And.right (by assumption)) | (focus omega) | (focus (simp; done)) | (focus (simp; omega)) | (focus (simp at *; omega))))) (b2.mono (by first | exact Nat.le_refl _ | omega | (simp; done) | (simp; omega)))
              have s2 := c2.size
              have bb2 := H_bb1.out.trans (c2.mono H_bb1.out.size)
              have x2 := H_x1.out.below c2
              have H_b2 := Lib.hid b2; clear b2; have H_c2 := Lib.hid c2; clear c2; have H_bb2 := Lib.hid bb2; clear bb2; have H_x2 := Lib.hid x2; clear x2
              clear y0 y1 y2 y3
              have y0 := (H_x2.out 0 _ rfl).at
              have y1 := (H_x2.out 1 _ rfl).at
              have y2 := (H_x2.out 2 _ rfl).at
              have y3 := (H_x2.out 3 _ rfl).at
              go_wp2_with fail
              go_ret
              exact ⟨ret_bool (by rw [H_no.out]), H_bb2.out⟩
            have i2 : decide (x.n ≤ 0) = false := decide_eq_false hp
            have yes : excB x = true := by
              have : 0 < x.n := by omega
              simp [excB, hf1, ht1, hft, hv, this]
            have H_qa := Lib.hid qa; clear qa; have H_qb := Lib.hid qb; clear qb; have H_qc := Lib.hid qc; clear qc; have H_hf1 := Lib.hid hf1; clear hf1; have H_ht1 := Lib.hid ht1; clear ht1; have H_hft := Lib.hid hft; clear hft; have H_hv := Lib.hid hv; clear hv; have H_hp := Lib.hid hp; clear hp; have H_yes := Lib.hid yes; clear yes
            go_wp2_with fail
            (with_reducible refine (H_qa.out _).mono ?_)
            rintro e w_ ⟨rfl, rfl⟩
            go_wp2_with fail
            (with_reducible refine (H_qb.out _).mono ?_)
            rintro e w_ ⟨rfl, rfl⟩
            go_wp2_with fail
            (with_reducible refine (H_qc.out _).mono ?_)
            rintro e w2 ⟨rfl, b2⟩
            have c2 : Below w1.heap.size w1 w2 := Below.trans (by (repeat (first | with_reducible exact Below.refl _ _ | with_reducible exact Nat.le_refl _ | with_reducible assumption | with_reducible refine Below.drew ?_ | with_reducible refine below_drewN ?_ _ | with_reducible refine Below.alloc ?_ ?_ _ | with_reducible refine Below.setCell ?_ ?_ _ | with_reducible exact And.right (by assumption) | with_reducible refine Below.trans ?_ (Below.mono (by assumption) ?_) | with_reducible exact Below.size (And.right (by assumption)) | (focus omega) | (focus (simp; done)) | (focus (simp; omega)) | (focus (simp at *; omega))))) (b2.mono (by first | exact Nat.le_refl _ | omega | (simp; done) | (simp; omega)))
            have s2 := c2.size
            have bb2 := H_bb1.out.trans (c2.mono H_bb1.out.size)
            have x2 := H_x1.out.below c2
            have r2 := H_r1.out.below c2
            have H_b2 := Lib.hid b2; clear b2; have H_c2 := Lib.hid c2; clear c2; have H_bb2 := Lib.hid bb2; clear bb2; have H_x2 := Lib.hid x2; clear x2; have H_r2 := Lib.hid r2; clear r2
            clear y0 y1 y2 y3
            have y0 := (H_x2.out 0 _ rfl).at
            have y1 := (H_x2.out 1 _ rfl).at
            have y2 := (H_x2.out 2 _ rfl).at
            have y3 := (H_x2.out 3 _ rfl).at
            clear ly
            have ly := (H_x2.out 0 _ rfl).lt
            generalize wr.heap.size = g at *
            go_upto_region 8 with (fail)
            go_loopw [5] (fun i W => ∃ j : Nat, j ≤ k ∧ i = .int .i64 j ∧ (∀ y ∈ l.take j, ¬ (y.f = x.f ∧ y.t = x.t)) ∧ Below w2.heap.size w2 W) (fun i _ => k - (intOf i).toNat)
            case atStart => exact ⟨0, by omega, rfl, fun x hx => by simp at hx, Below.refl _ _⟩
            case round =>
              obtain ⟨j, hj, rfl, hno, bz⟩ := hrel
              have rz := H_r2.out.below bz
              have xz := H_x2.out.below bz
              have bbz := H_bb2.out.trans (bz.mono H_bb2.out.size)
              clear y0 y1 y2 y3
              clear ly
              have ly := (xz 0 _ rfl).lt
              have H_bz := Lib.hid bz; clear bz; have H_rz := Lib.hid rz; clear rz; have H_xz := Lib.hid xz; clear xz; have H_bbz := Lib.hid bbz; clear bbz
              have y0 := (H_xz.out 0 _ rfl).at
              have y1 := (H_xz.out 1 _ rfl).at
              have y2 := (H_xz.out 2 _ rfl).at
              have y3 := (H_xz.out 3 _ rfl).at
              by_cases hjk : j < k
              · have j1 : (j : Int) < (k : Int) := by omega
                have j0 : (0 : Int) ≤ (j : Int) := by omega
                have jn : (j : Int) < (n : Int) := by omega
                have jz : (j : Int) < 100000 := by omega
                obtain ⟨z, hz5⟩ : ∃ z, l[j]? = some z := ⟨_, List.getElem?_eq_getElem (by rw [H_hln.out]; omega)⟩
                obtain ⟨b2, off2, hA, hbl2, hf2, z0, z1, z2, z3⟩ := H_rz.out.at hz5
                injection hA with hA
                injection hA with hA1 hA2 _
                subst hA1 hA2
                clear z2 z3
                have snoc := fun h1 => take_all_snoc (P := fun y : Exc => ¬ (y.f = x.f ∧ y.t = x.t)) hz5 hno h1
                have H_hno := Lib.hid hno; clear hno; have H_hz5 := Lib.hid hz5; clear hz5; have H_hf2 := Lib.hid hf2; clear hf2; have H_snoc := Lib.hid snoc; clear snoc
                by_cases c1 : z.f = x.f
                · have d1 : (z.f == x.f) = true := by simp [c1]
                  by_cases c2 : z.t = x.t
                  · have d2 : (z.t == x.t) = true := by simp [c2]
                    have no := tab_dup H_hx5.out H_hz5.out hjk ⟨c1, c2⟩
                    have H_no := Lib.hid no; clear no; have H_c1 := Lib.hid c1; clear c1; have H_c2 := Lib.hid c2; clear c2
                    go_upto_region 10 with (fail)
                    go_quiet (fail)
                    go_wp2_with fail
                    go_ret
                    exact ⟨ret_bool (by rw [H_no.out]), below_drewN H_bbz.out _⟩
                  · have d2 : (z.t == x.t) = false := by simp [c2]
                    have h9 := H_snoc.out (fun h => c2 h.2)
                    have H_c1 := Lib.hid c1; clear c1; have H_c2 := Lib.hid c2; clear c2; have H_h9 := Lib.hid h9; clear h9
                    go_upto_region 10 with (fail)
                    go_quiet (fail)
                    go_wp2_with fail
                    go_roundw
                    case rel => exact ⟨j + 1, by omega, by go_num, H_h9.out, below_drewN H_bz.out _⟩
                    case measure => simp [intOf]; omega
                · have d1 : (z.f == x.f) = false := by simp [c1]
                  have h9 := H_snoc.out (fun h => c1 h.1)
                  have H_c1 := Lib.hid c1; clear c1; have H_h9 := Lib.hid h9; clear h9
                  go_upto_region 10 with (fail)
                  go_quiet (fail)
                  go_wp2_with fail
                  go_roundw
                  case rel => exact ⟨j + 1, by omega, by go_num, H_h9.out, below_drewN H_bz.out _⟩
                  case measure => simp [intOf]; omega
              · have j1 : ¬ (j : Int) < (k : Int) := by omega
                have hjk2 : j = k := by omega
                subst hjk2
                have hnd1 := keys_snoc H_hx5.out H_hnd.out hno
                have hal1 := take_all_snoc (P := fun x : Exc => excB x = true) H_hx5.out H_hall.out H_yes.out
                by_cases h30 : 30 ≤ j
                · have i3 : decide ((30 : Int) ≤ (j : Int)) = true := decide_eq_true (by omega)
                  have no := tab_long (l := l) (by rw [H_hln.out]; omega)
                  have H_hno := Lib.hid hno; clear hno; have H_hnd1 := Lib.hid hnd1; clear hnd1; have H_hal1 := Lib.hid hal1; clear hal1; have H_no := Lib.hid no; clear no
                  go_wp2_with fail
                  go_ret
                  exact ⟨ret_bool (by rw [H_no.out]), H_bbz.out⟩
                · have i3 : decide ((30 : Int) ≤ (j : Int)) = false := decide_eq_false (by omega)
                  have H_hno := Lib.hid hno; clear hno; have H_hnd1 := Lib.hid hnd1; clear hnd1; have H_hal1 := Lib.hid hal1; clear hal1
                  go_wp2_with fail
                  go_roundw
                  case rel => exact ⟨j + 1, by omega, by go_num, H_hal1.out, H_hnd1.out, by omega, H_bbz.out⟩
                  case measure => simp [intOf]; omega
    · have g1 : ¬ (k : Int) < (n : Int) := by omega
      have tk : l.take k = l := List.take_of_length_le (by rw [H_hln.out]; omega)
      rw [tk] at hall hnd
      have yes := tab_yes hall hnd (by rw [H_hln.out]; omega)
      have H_hall := Lib.hid hall; clear hall; have H_hnd := Lib.hid hnd; clear hnd; have H_hbw := Lib.hid hbw; clear hbw; have H_tk := Lib.hid tk; clear tk; have H_yes := Lib.hid yes; clear yes
      go_wp2_with fail
      go_ret
      exact ⟨ret_bool (by rw [H_yes.out]), H_hbw.out⟩
end Go.Proofs.YtaloadadecoogaaDoor

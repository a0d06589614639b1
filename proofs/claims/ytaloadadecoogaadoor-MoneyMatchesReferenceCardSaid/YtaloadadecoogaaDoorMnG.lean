/- Contract of package money: table. -/
import Derived.Test.YtaloadadecoogaaDoorMnF
import Derived.Test.YtaloadadecoogaaDoorRow
namespace Go.Proofs.YtaloadadecoogaaDoor
set_option linter.unusedSimpArgs false
set_option linter.unusedVariables false
set_option maxRecDepth 100000
open Go.RowKit Go.Maps

def Excs (w : World) (A : Option Addr) (l : List Exc) : Prop := RowsAt 4 ExAt w A l
theorem Excs.below {w w' : World} {A : Option Addr} {l : List Exc} (h : Excs w A l) (hb : Below w.heap.size w w') : Excs w' A l := RowsAt.below h (fun _ _ h => h) hb
theorem Excs.at {w : World} {A : Option Addr} {l : List Exc} (h : Excs w A l) {i : Nat} {x : Exc} (hi : l[i]? = some x) : ∃ b off, A = some ⟨b, off, none⟩ ∧ b < w.heap.size ∧ XFit x ∧
    w.cell? ⟨b, off + i * 4, none⟩ = some (.int .i64 x.f) ∧ w.cell? ⟨b, off + i * 4 + 1, none⟩ = some (.int .i64 x.t) ∧ w.cell? ⟨b, off + i * 4 + 2, none⟩ = some (.int .i64 x.n) ∧ w.cell? ⟨b, off + i * 4 + 3, none⟩ = some (.int .i64 x.d) := by
  obtain ⟨b, off, cs, e, hlt, hl, hc, rfl, hf⟩ := h i x hi
  refine ⟨b, off, e, hlt, hf, ?_, ?_, ?_, ?_⟩
  · exact hc 0 (by omega)
  all_goals (rw [Nat.add_assoc])
  · exact hc 1 (by omega)
  · exact hc 2 (by omega)
  · exact hc 3 (by omega)
theorem Excs.fit {w : World} {A : Option Addr} {l : List Exc} (h : Excs w A l) : ∀ x ∈ l, XFit x := fun x hx => by
  obtain ⟨i, hi, rfl⟩ := List.getElem_of_mem hx
  obtain ⟨_, _, _, _, h2, _⟩ := h.at (List.getElem?_eq_getElem hi)
  exact h2
/-- the rates by two currencies, and whether the exchanges are well-formed -/
def TabPost (l : List Exc) (w : World) (e : Ending) (w' : World) : Prop := ∃ v, e = .returned (.tuple #[v, .bool (tabB l)]) ∧ (tabB l = true → ∃ b, v = .map (some b) ∧ MapAt w' Tryd.prog 57 b l.length (tbl l)) ∧ Below w.heap.size w w'
theorem tab_no {l : List Exc} {x : Exc} (hx : x ∈ l) (h : excB x = false) : tabB l = false := by
  rw [Bool.eq_false_iff]; intro e
  rw [tab_mem e hx] at h; cases h
set_option maxHeartbeats 8000000 in
theorem table_any (A : Option Addr) (cp n : Nat) (l : List Exc) (hln : l.length = n) (hn : n ≤ 100000) (w : World) (hl : Excs w A l) :
    Calls Tryd.prog 24 #[.slice A n cp] w (TabPost l w) := by
  have hmm := @run_makeMap Tryd.prog
  have htm : Tryd.prog.underlying 54 = some (.map 57 40) := Tryd.underlying54
  have mp := MapAt.made w Tryd.prog 57 rfl
  have b0 : Below w.heap.size w (w.alloc (.map #[] 0)) := (Below.refl _ _).alloc (Nat.le_refl _) _
  have H_hl := Lib.hid hl; clear hl; have H_hln := Lib.hid hln; clear hln; have H_hn := Lib.hid hn; clear hn; have H_htm := Lib.hid htm; clear htm; have H_mp := Lib.hid mp; clear mp; have H_b0 := Lib.hid b0; clear b0
  go_enter Tryd.func24, Tryd.ntmps24
  go_wp2_with fail
  clear hmm
  go_loopw [10] (fun i wr => ∃ k : Nat, k ≤ n ∧ i = .int .i64 k ∧ MapAt wr Tryd.prog 57 w.heap.size k (tbl (l.take k)) ∧ (∀ x ∈ l.take k, excB x = true) ∧ Below w.heap.size w wr) (fun i _ => n - (intOf i).toNat)
  case atStart => exact ⟨0, by omega, rfl, H_mp.out, fun x hx => by simp at hx, H_b0.out⟩
  case round =>
    obtain ⟨k, hk, rfl, mpk, hall, hbw⟩ := hrel
    by_cases hlt : k < n
    · have g1 : (k : Int) < (n : Int) := by omega
      have g0 : (0 : Int) ≤ (k : Int) := by omega
      obtain ⟨x, hx5⟩ : ∃ x, l[k]? = some x := ⟨_, List.getElem?_eq_getElem (by rw [H_hln.out]; exact hlt)⟩
      have hm : x ∈ l := List.mem_of_getElem? hx5
      have rw5 := H_hl.out.below hbw
      obtain ⟨b, off, rfl, hbl, hf, e0, e1, e2, e3⟩ := rw5.at hx5
      have htk : l.take (k + 1) = l.take k ++ [x] := by rw [List.take_add_one, hx5]; rfl
      have qf := fun W => misCurrency_any x.f W
      have qt := fun W => misCurrency_any x.t W
      have qr := fun W => mrat_any x.n x.d (wf_i64 hf.n) (wf_i64 hf.d) W
      have H_mpk := Lib.hid mpk; clear mpk; have H_hall := Lib.hid hall; clear hall; have H_hbw := Lib.hid hbw; clear hbw; have H_rw5 := Lib.hid rw5; clear rw5; have H_hx5 := Lib.hid hx5; clear hx5; have H_hm := Lib.hid hm; clear hm; have H_hf := Lib.hid hf; clear hf; have H_htk := Lib.hid htk; clear htk; have H_qf := Lib.hid qf; clear qf; have H_qt := Lib.hid qt; clear qt; have H_qr := Lib.hid qr; clear qr
      go_upto_region 5 with (fail)
      clear e0 e1 e2 e3
      obtain ⟨w1, hw1⟩ : ∃ W, wr.alloc (.cells #[.int .i64 x.f, .int .i64 x.t, .int .i64 x.n, .int .i64 x.d] 53) = W := ⟨_, rfl⟩
      rw [hw1]
      have c1 : Below wr.heap.size wr w1 := by rw [← hw1]; exact (Below.refl _ _).alloc (Nat.le_refl _) _
      have x1 : Blk w1 wr.heap.size #[.int .i64 x.f, .int .i64 x.t, .int .i64 x.n, .int .i64 x.d] := by rw [← hw1]; exact blk_new rfl
      have m1 : MapAt w1 Tryd.prog 57 w.heap.size k (tbl (l.take k)) := H_mpk.out.below c1
      have bb1 := H_hbw.out.trans (c1.mono H_hbw.out.size)
      have H_hw1 := Lib.hid hw1; clear hw1; have H_c1 := Lib.hid c1; clear c1; have H_x1 := Lib.hid x1; clear x1; have H_m1 := Lib.hid m1; clear m1; have H_bb1 := Lib.hid bb1; clear bb1
      have y0 := (H_x1.out 0 _ rfl).at
      have y1 := (H_x1.out 1 _ rfl).at
      have y2 := (H_x1.out 2 _ rfl).at
      have y3 := (H_x1.out 3 _ rfl).at
      have ly := (H_x1.out 0 _ rfl).lt
      cases hf1 : curB x.f with
      | false =>
        have no := tab_no H_hm.out (show excB x = false by simp [excB, hf1])
        have q := H_qf.out
        rw [hf1] at q
        have H_no := Lib.hid no; clear no; have H_q := Lib.hid q; clear q; have H_hf1 := Lib.hid hf1; clear hf1
        go_wp2_with fail
        (with_reducible refine (H_q.out _).mono ?_)
        rintro e w_ ⟨rfl, rfl⟩
        go_wp2_with fail
        go_ret2
        exact ⟨.map none, by rw [H_no.out]; rfl, (fun h => by rw [H_no.out] at h; cases h), H_bb1.out⟩
      | true =>
        have qa := H_qf.out
        rw [hf1] at qa
        cases ht1 : curB x.t with
        | false =>
          have no := tab_no H_hm.out (show excB x = false by simp [excB, ht1])
          have q := H_qt.out
          rw [ht1] at q
          have H_no := Lib.hid no; clear no; have H_q := Lib.hid q; clear q; have H_qa := Lib.hid qa; clear qa; have H_hf1 := Lib.hid hf1; clear hf1; have H_ht1 := Lib.hid ht1; clear ht1
          go_wp2_with fail
          (with_reducible refine (H_qa.out _).mono ?_)
          rintro e w_ ⟨rfl, rfl⟩
          go_wp2_with fail
          (with_reducible refine (H_q.out _).mono ?_)
          rintro e w_ ⟨rfl, rfl⟩
          go_wp2_with fail
          go_ret2
          exact ⟨.map none, by rw [H_no.out]; rfl, (fun h => by rw [H_no.out] at h; cases h), H_bb1.out⟩
        | true =>
          have qb := H_qt.out
          rw [ht1] at qb
          by_cases hft : x.f = x.t
          · have no := tab_no H_hm.out (show excB x = false by simp [excB, hft])
            have i1 : (x.f == x.t) = true := by simp [hft]
            have H_no := Lib.hid no; clear no; have H_qa := Lib.hid qa; clear qa; have H_qb := Lib.hid qb; clear qb; have H_hf1 := Lib.hid hf1; clear hf1; have H_ht1 := Lib.hid ht1; clear ht1; have H_hft := Lib.hid hft; clear hft
            go_wp2_with fail
            (with_reducible refine (H_qa.out _).mono ?_)
            rintro e w_ ⟨rfl, rfl⟩
            go_wp2_with fail
            (with_reducible refine (H_qb.out _).mono ?_)
            rintro e w_ ⟨rfl, rfl⟩
            go_wp2_with fail
            go_ret2
            exact ⟨.map none, by rw [H_no.out]; rfl, (fun h => by rw [H_no.out] at h; cases h), H_bb1.out⟩
          have i1 : (x.f == x.t) = false := by simp [hft]
          cases hv : ratB x.n x.d with
          | false =>
            have no := tab_no H_hm.out (show excB x = false by simp [excB, hv])
            have q := H_qr.out
            rw [hv] at q
            have H_no := Lib.hid no; clear no; have H_q := Lib.hid q; clear q; have H_qa := Lib.hid qa; clear qa; have H_qb := Lib.hid qb; clear qb; have H_hf1 := Lib.hid hf1; clear hf1; have H_ht1 := Lib.hid ht1; clear ht1; have H_hft := Lib.hid hft; clear hft; have H_hv := Lib.hid hv; clear hv
            go_wp2_with fail
            (with_reducible refine (H_qa.out _).mono ?_)
            rintro e w_ ⟨rfl, rfl⟩
            go_wp2_with fail
            (with_reducible refine (H_qb.out _).mono ?_)
            rintro e w_ ⟨rfl, rfl⟩
            go_wp2_with fail
            (with_reducible refine (H_q.out _).mono ?_)
            rintro e w2 ⟨rfl, b2⟩
            have c2 : Below w1.heap.size w1 w2 := Below.trans (by (repeat (first | with_reducible exact Below.refl _ _ | with_reducible exact Nat.le_refl _ | with_reducible assumption | with_reducible refine Below.drew ?_ | with_reducible refine below_drewN ?_ _ | with_reducible refine Below.alloc ?_ ?_ _ | with_reducible refine Below.setCell ?_ ?_ _ | with_reducible exact And.right (by assumption) | with_reducible refine Below.trans ?_ (Below.mono (by assumption) ?_) | with_reducible exact Below.size (And.right (by assumption)) | (focus omega) | (focus (simp; done)) | (focus (simp; omega)) | (focus (simp at *; omega))))) (b2.mono (by first | exact Nat.le_refl _ | omega | (simp; done) | (simp; omega)))
            have s2 := c2.size
            have bb2 := H_bb1.out.trans (c2.mono H_bb1.out.size)
            have H_b2 := Lib.hid b2; clear b2; have H_c2 := Lib.hid c2; clear c2; have H_bb2 := Lib.hid bb2; clear bb2
            go_wp2_with fail
            go_ret2
            exact ⟨.map none, by rw [H_no.out]; rfl, (fun h => by rw [H_no.out] at h; cases h), H_bb2.out⟩
          | true =>
            have qc := H_qr.out
            rw [hv] at qc
            by_cases hp : x.n ≤ 0
            · have no := tab_no H_hm.out (show excB x = false by have : ¬ 0 < x.n := (by omega); simp [excB, this])
              have i2 : decide (x.n ≤ 0) = true := decide_eq_true hp
              have H_no := Lib.hid no; clear no; have H_qa := Lib.hid qa; clear qa; have H_qb := Lib.hid qb; clear qb; have H_qc := Lib.hid qc; clear qc; have H_hf1 := Lib.hid hf1; clear hf1; have H_ht1 := Lib.hid ht1; clear ht1; have H_hft := Lib.hid hft; clear hft; have H_hv := Lib.hid hv; clear hv; have H_hp := Lib.hid hp; clear hp
              go_wp2_with fail
              (with_reducible refine (H_qa.out _).mono ?_)
              rintro e w_ ⟨rfl, rfl⟩
              go_wp2_with fail
              (with_reducible refine (H_qb.out _).mono ?_)
              rintro e w_ ⟨rfl, rfl⟩
              go_wp2_with fail
              (with_reducible refine (H_qc.out _).mono ?_)
              rintro e w2 ⟨rfl, b2⟩
              have c2 : Below w1.heap.size w1 w2 := Below.trans (by (repeat (first | with_reducible exact Below.refl _ _ | with_reducible exact Nat.le_refl _ | with_reducible assumption | with_reducible refine Below.drew ?_ | with_reducible refine below_drewN ?_ _ | with_reducible refine Below.alloc ?_ ?_ _ | with_reducible refine Below.setCell ?_ ?_ _ | with_reducible exact And.right (by assumption) | with_reducible refine Below.trans ?_ (Below.mono (by assumption) ?_) | with_reducible exact Below.size (And.right (by assumption)) | (focus omega) | (focus (simp; done)) | (focus (simp; omega)) | (focus (simp at *; omega))))) (b2.mono (by first | exact Nat.le_refl _ | omega | (simp; done) | (simp; omega)))
              have s2 := c2.size
              have bb2 := H_bb1.out.trans (c2.mono H_bb1.out.size)
              have x2 := H_x1.out.below c2
              have H_b2 := Lib.hid b2; clear b2; have H_c2 := Lib.hid c2; clear c2; have H_bb2 := Lib.hid bb2; clear bb2; have H_x2 := Lib.hid x2; clear x2
              clear y0 y1 y2 y3
              have y0 := (H_x2.out 0 _ rfl).at
              have y1 := (H_x2.out 1 _ rfl).at
              have y2 := (H_x2.out 2 _ rfl).at
              have y3 := (H_x2.out 3 _ rfl).at
              go_wp2_with fail
              go_ret2
              exact ⟨.map none, by rw [H_no.out]; rfl, (fun h => by rw [H_no.out] at h; cases h), H_bb2.out⟩
            have i2 : decide (x.n ≤ 0) = false := decide_eq_false hp
            have yes : excB x = true := by
              have : 0 < x.n := by omega
              simp [excB, hf1, ht1, hft, hv, this]
            have hky := key2 x.f x.t H_hf.out.f H_hf.out.t
            have hkM : k < maxLen := by have := H_hn.out; unfold maxLen; omega
            have H_qa := Lib.hid qa; clear qa; have H_qb := Lib.hid qb; clear qb; have H_qc := Lib.hid qc; clear qc; have H_hf1 := Lib.hid hf1; clear hf1; have H_ht1 := Lib.hid ht1; clear ht1; have H_hft := Lib.hid hft; clear hft; have H_hv := Lib.hid hv; clear hv; have H_hp := Lib.hid hp; clear hp; have H_yes := Lib.hid yes; clear yes; have H_hky := Lib.hid hky; clear hky; have H_hkM := Lib.hid hkM; clear hkM
            go_wp2_with fail
            (with_reducible refine (H_qa.out _).mono ?_)
            rintro e w_ ⟨rfl, rfl⟩
            go_wp2_with fail
            (with_reducible refine (H_qb.out _).mono ?_)
            rintro e w_ ⟨rfl, rfl⟩
            go_wp2_with fail
            (with_reducible refine (H_qc.out _).mono ?_)
            rintro e w2 ⟨rfl, b2⟩
            have c2 : Below w1.heap.size w1 w2 := Below.trans (by (repeat (first | with_reducible exact Below.refl _ _ | with_reducible exact Nat.le_refl _ | with_reducible assumption | with_reducible refine Below.drew ?_ | with_reducible refine below_drewN ?_ _ | with_reducible refine Below.alloc ?_ ?_ _ | with_reducible refine Below.setCell ?_ ?_ _ | with_reducible exact And.right (by assumption) | with_reducible refine Below.trans ?_ (Below.mono (by assumption) ?_) | with_reducible exact Below.size (And.right (by assumption)) | (focus omega) | (focus (simp; done)) | (focus (simp; omega)) | (focus (simp at *; omega))))) (b2.mono (by first | exact Nat.le_refl _ | omega | (simp; done) | (simp; omega)))
            have s2 := c2.size
            have bb2 := H_bb1.out.trans (c2.mono H_bb1.out.size)
            have x2 := H_x1.out.below c2
            have m2 := H_m1.out.below c2
            have H_b2 := Lib.hid b2; clear b2; have H_c2 := Lib.hid c2; clear c2; have H_bb2 := Lib.hid bb2; clear bb2; have H_x2 := Lib.hid x2; clear x2; have H_m2 := Lib.hid m2; clear m2
            clear y0 y1 y2 y3
            have y0 := (H_x2.out 0 _ rfl).at
            have y1 := (H_x2.out 1 _ rfl).at
            have y2 := (H_x2.out 2 _ rfl).at
            have y3 := (H_x2.out 3 _ rfl).at
            go_wp2_with (refine wp_update_any _ (by rfl) (.tmp 43) _ _ _ (by rfl) 57 40 keyed2 H_htm.out w.heap.size k (tbl (l.take k)) (by rfl) H_m2.out H_hkM.out (.agg #[.int .i64 x.f, .int .i64 x.t]) (ratV x) (KL x.f x.t) (by rfl) (by rfl) H_hky.out ?_)
            intro wz mz gz
            rw [← tbl_snoc, ← H_htk.out] at mz
            have cz : Below w.heap.size w wz := H_bb2.out.trans (below_of_grown gz H_bb2.out.size (Nat.le_refl _))
            have hal : ∀ y ∈ l.take (k + 1), excB y = true := fun y hy => by
              rw [H_htk.out] at hy
              rcases List.mem_append.1 hy with h | h
              · exact H_hall.out y h
              · have : y = x := by simpa using h
                rw [this]; exact H_yes.out
            clear y0 y1 y2 y3
            have H_mz := Lib.hid mz; clear mz; have H_gz := Lib.hid gz; clear gz; have H_cz := Lib.hid cz; clear cz; have H_hal := Lib.hid hal; clear hal
            have hk9 : (k : Int) < 100000 := by have := H_hn.out; omega
            go_wp2_with fail
            go_roundw
            case rel => exact ⟨k + 1, by omega, by go_num, H_mz.out, H_hal.out, H_cz.out⟩
            case measure => simp [intOf]; omega
    · have g1 : ¬ (k : Int) < (n : Int) := by omega
      have hkn : k = l.length := by rw [H_hln.out]; omega
      rw [hkn, List.take_of_length_le (Nat.le_refl _)] at mpk
      rw [hkn, List.take_of_length_le (Nat.le_refl _)] at hall
      have len := fun ty => mpk.len H_htm.out ty
      obtain ⟨z1, z2⟩ := tbl_size H_hl.out.fit
      have hT : tabB l = (decide (Maps.size (tbl l) = l.length) && decide (l.length ≤ 30)) := by
        have h1 : l.all excB = true := List.all_eq_true.2 hall
        rw [tabB, h1, Bool.true_and]
        congr 1
        rw [Bool.eq_iff_iff, decide_eq_true_eq, decide_eq_true_eq]; exact z2.symm
      generalize hS : Maps.size (tbl l) = S at *
      have hln2 := H_hln.out
      rw [hln2] at hT mpk
      by_cases hs : S = n
      · have i1 : ((S : Int) == (n : Int)) = true := by rw [beq_iff_eq]; omega
        by_cases h30 : n ≤ 30
        · have i2 : decide ((n : Int) ≤ 30) = true := decide_eq_true (by omega)
          have e : tabB l = true := by rw [hT, decide_eq_true hs, decide_eq_true h30]; rfl
          clear hT z1 z2 hkn hln2
          have H_mpk := Lib.hid mpk; clear mpk; have H_hall := Lib.hid hall; clear hall; have H_hbw := Lib.hid hbw; clear hbw; have H_e := Lib.hid e; clear e; have H_hs := Lib.hid hs; clear hs; have H_h30 := Lib.hid h30; clear h30; have H_hS := Lib.hid hS; clear hS
          go_wp2_with fail
          go_ret2
          exact ⟨_, by rw [H_e.out]; rfl, fun _ => ⟨_, rfl, by rw [H_hln.out]; exact H_mpk.out⟩, H_hbw.out⟩
        · have i2 : decide ((n : Int) ≤ 30) = false := decide_eq_false (by omega)
          have e : tabB l = false := by rw [hT, decide_eq_false h30, Bool.and_false]
          clear hT z1 z2 hkn hln2
          have H_mpk := Lib.hid mpk; clear mpk; have H_hall := Lib.hid hall; clear hall; have H_hbw := Lib.hid hbw; clear hbw; have H_e := Lib.hid e; clear e; have H_hs := Lib.hid hs; clear hs; have H_h30 := Lib.hid h30; clear h30; have H_hS := Lib.hid hS; clear hS
          go_wp2_with fail
          go_ret2
          exact ⟨_, by rw [H_e.out]; rfl, (fun h => by rw [H_e.out] at h; cases h), H_hbw.out⟩
      · have i1 : ((S : Int) == (n : Int)) = false := by rw [beq_eq_false_iff_ne]; omega
        have e : tabB l = false := by rw [hT, decide_eq_false hs, Bool.false_and]
        clear hT z1 z2 hkn hln2
        have H_mpk := Lib.hid mpk; clear mpk; have H_hall := Lib.hid hall; clear hall; have H_hbw := Lib.hid hbw; clear hbw; have H_e := Lib.hid e; clear e; have H_hs := Lib.hid hs; clear hs; have H_hS := Lib.hid hS; clear hS
        go_wp2_with fail
        go_ret2
        exact ⟨_, by rw [H_e.out]; rfl, (fun h => by rw [H_e.out] at h; cases h), H_hbw.out⟩
end Go.Proofs.YtaloadadecoogaaDoor

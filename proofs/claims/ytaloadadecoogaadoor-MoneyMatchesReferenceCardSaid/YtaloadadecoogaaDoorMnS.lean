/- Contract of package innkeeperref06: Convert. -/
import Derived.Test.YtaloadadecoogaaDoorMnQ
namespace Go.Proofs.YtaloadadecoogaaDoor
set_option linter.unusedSimpArgs false
set_option linter.unusedVariables false
set_option maxRecDepth 100000
open Go.RowKit Go.Maps

theorem fnd_at : ∀ {l : List Exc} {j : Nat} {a b : Int} {x : Exc}, l[j]? = some x → (∀ y ∈ l.take j, ¬ (y.f = a ∧ y.t = b)) → x.f = a → x.t = b → fndX l a b = some x
  | [], j, _, _, _, h, _, _, _ => by simp at h
  | y :: r, 0, a, b, x, h, _, ha, hb => by
    simp only [List.getElem?_cons_zero, Option.some.injEq] at h
    subst h
    rw [fndX, if_pos ⟨ha, hb⟩]
  | y :: r, j + 1, a, b, x, h, hn, ha, hb => by
    rw [List.getElem?_cons_succ] at h
    rw [List.take_succ_cons] at hn
    rw [fndX, if_neg (hn y List.mem_cons_self)]
    exact fnd_at h (fun z hz => hn z (List.mem_cons_of_mem _ hz)) ha hb
theorem fnd_not : ∀ {l : List Exc} {a b : Int}, (∀ y ∈ l, ¬ (y.f = a ∧ y.t = b)) → fndX l a b = none
  | [], _, _, _ => rfl
  | y :: r, a, b, h => by
    rw [fndX, if_neg (h y List.mem_cons_self)]
    exact fnd_not fun z hz => h z (List.mem_cons_of_mem _ hz)
set_option maxHeartbeats 8000000 in
theorem rconvert_any (A : Option Addr) (cp n : Nat) (l : List Exc) (m c t : Int) (hln : l.length = n) (hn : n ≤ 100000) (hm : -9223372036854775808 ≤ m ∧ m ≤ 9223372036854775807) (w : World) (hl : Excs w A l) :
    Calls Tryd.prog 11 #[.slice A n cp, .agg #[.int .i64 m, .int .i64 c], .int .i64 t] w fun e w' => e = .returned (.tuple #[.agg #[.int .i64 (cvM l m c t), .int .i64 (cvC l m c t)], .int .i64 (cvE l m c t)]) ∧ Below w.heap.size w w' := by
  have hfit := hl.fit
  obtain ⟨w0, hw0⟩ : ∃ W, (w.alloc (.cells #[.int .i64 m, .int .i64 c] 24)).alloc (.cells #[.int .i64 0, .int .i64 0] 24) = W := ⟨_, rfl⟩
  have bb0 : Below w.heap.size w w0 := by rw [← hw0]; exact ((Below.refl _ _).alloc (Nat.le_refl _) _).alloc (by simp) _
  have k0 : Blk w0 w.heap.size #[.int .i64 m, .int .i64 c] := by
    rw [← hw0]
    exact (blk_new (w := w) (t := 24) rfl).below ((Below.refl _ _).alloc (Nat.le_refl _) _)
  have r0 : Blk w0 (w.heap.size + 1) #[.int .i64 0, .int .i64 0] := by
    have h := blk_new (w := w.alloc (.cells #[.int .i64 m, .int .i64 c] 24)) (vs := #[.int .i64 0, .int .i64 0]) (t := 24) rfl
    rw [hw0] at h
    simpa using h
  have q1 := rvalid_any A cp n l hln hn w0 (hl.below bb0)
  have qa := fun W => ramount_any m W
  have qb := fun W => rcurrency_any c W
  have qt := fun W => rcurrency_any t W
  have H_hfit := Lib.hid hfit; clear hfit; have H_hw0 := Lib.hid hw0; clear hw0; have H_bb0 := Lib.hid bb0; clear bb0; have H_k0 := Lib.hid k0; clear k0; have H_r0 := Lib.hid r0; clear r0; have H_q1 := Lib.hid q1; clear q1; have H_qa := Lib.hid qa; clear qa; have H_qb := Lib.hid qb; clear qb; have H_qt := Lib.hid qt; clear qt; have H_hln := Lib.hid hln; clear hln; have H_hl := Lib.hid hl; clear hl; have H_hm := Lib.hid hm; clear hm
  go_enter Tryd.func11, Tryd.ntmps11
  go_wp2_with fail
  rw [H_hw0.out]
  go_wp2_with fail
  (with_reducible refine (H_q1.out).mono ?_)
  rintro e w1 ⟨rfl, b1⟩
  have bb1 := H_bb0.out.trans (b1.mono H_bb0.out.size)
  have k1 := H_k0.out.below b1
  have r1 := H_r0.out.below b1
  have y0 := (k1 0 _ rfl).at
  have y1 := (k1 1 _ rfl).at
  have z0 := (r1 0 _ rfl).at
  have z1 := (r1 1 _ rfl).at
  have ly := (k1 0 _ rfl).lt
  have lz := (r1 0 _ rfl).lt
  have H_b1 := Lib.hid b1; clear b1; have H_bb1 := Lib.hid bb1; clear bb1; have H_k1 := Lib.hid k1; clear k1; have H_r1 := Lib.hid r1; clear r1
  cases hT : tabB l with
  | false =>
    have eE : cvE l m c t = 1 := by rw [cvE, if_neg (by rw [hT]; simp)]
    obtain ⟨eM, eC⟩ := cv_err (by rw [eE]; omega)
    have H_eE := Lib.hid eE; clear eE; have H_eM := Lib.hid eM; clear eM; have H_eC := Lib.hid eC; clear eC; have H_hT := Lib.hid hT; clear hT
    go_upto_region 2 with (fail)
    have gw9 : Below w.heap.size w (putL w1 (w.heap.size + 1) 0 [.int .i64 0, .int .i64 0]) := putL_below (by omega) _ _ _ H_bb1.out
    simp only [putL, Nat.reduceAdd] at gw9
    have H_gw9 := Lib.hid gw9; clear gw9
    have f0 := (H_r1.out 0 _ rfl).free
    have f1 := (H_r1.out 1 _ rfl).free
    go_wp2_with fail
    refine bodyPost_ret (v := .tuple #[.agg #[.int .i64 0, .int .i64 0], .int .i64 1]) (by simp [results, Tryd.results11, go_sem, *]) rfl ⟨by rw [H_eE.out, H_eM.out, H_eC.out], H_gw9.out⟩
  | true =>
    have qa := H_qa.out
    cases ha : amtB m with
    | false =>
      rw [ha] at qa
      have eE : cvE l m c t = 1 := by rw [cvE, if_neg (by rw [ha]; simp)]
      obtain ⟨eM, eC⟩ := cv_err (by rw [eE]; omega)
      have H_eE := Lib.hid eE; clear eE; have H_eM := Lib.hid eM; clear eM; have H_eC := Lib.hid eC; clear eC; have H_hT := Lib.hid hT; clear hT; have H_ha := Lib.hid ha; clear ha; have H_qa := Lib.hid qa; clear qa
      go_wp2_with fail
      (with_reducible refine (H_qa.out _).mono ?_)
      rintro e w_ ⟨rfl, rfl⟩
      go_upto_region 2 with (fail)
      have gw9 : Below w.heap.size w (putL w1 (w.heap.size + 1) 0 [.int .i64 0, .int .i64 0]) := putL_below (by omega) _ _ _ H_bb1.out
      simp only [putL, Nat.reduceAdd] at gw9
      have H_gw9 := Lib.hid gw9; clear gw9
      have f0 := (H_r1.out 0 _ rfl).free
      have f1 := (H_r1.out 1 _ rfl).free
      go_wp2_with fail
      refine bodyPost_ret (v := .tuple #[.agg #[.int .i64 0, .int .i64 0], .int .i64 1]) (by simp [results, Tryd.results11, go_sem, *]) rfl ⟨by rw [H_eE.out, H_eM.out, H_eC.out], H_gw9.out⟩
    | true =>
      rw [ha] at qa
      have qb := H_qb.out
      cases hb : curB c with
      | false =>
        rw [hb] at qb
        have eE : cvE l m c t = 1 := by rw [cvE, if_neg (by rw [hb]; simp)]
        obtain ⟨eM, eC⟩ := cv_err (by rw [eE]; omega)
        have H_eE := Lib.hid eE; clear eE; have H_eM := Lib.hid eM; clear eM; have H_eC := Lib.hid eC; clear eC; have H_hT := Lib.hid hT; clear hT; have H_ha := Lib.hid ha; clear ha; have H_qa := Lib.hid qa; clear qa; have H_hb := Lib.hid hb; clear hb; have H_qb := Lib.hid qb; clear qb
        go_wp2_with fail
        (with_reducible refine (H_qa.out _).mono ?_)
        rintro e w_ ⟨rfl, rfl⟩
        go_wp2_with fail
        (with_reducible refine (H_qb.out _).mono ?_)
        rintro e w_ ⟨rfl, rfl⟩
        go_upto_region 2 with (fail)
        have gw9 : Below w.heap.size w (putL w1 (w.heap.size + 1) 0 [.int .i64 0, .int .i64 0]) := putL_below (by omega) _ _ _ H_bb1.out
        simp only [putL, Nat.reduceAdd] at gw9
        have H_gw9 := Lib.hid gw9; clear gw9
        have f0 := (H_r1.out 0 _ rfl).free
        have f1 := (H_r1.out 1 _ rfl).free
        go_wp2_with fail
        refine bodyPost_ret (v := .tuple #[.agg #[.int .i64 0, .int .i64 0], .int .i64 1]) (by simp [results, Tryd.results11, go_sem, *]) rfl ⟨by rw [H_eE.out, H_eM.out, H_eC.out], H_gw9.out⟩
      | true =>
        rw [hb] at qb
        have qt := H_qt.out
        cases hd : curB t with
        | false =>
          rw [hd] at qt
          have eE : cvE l m c t = 1 := by rw [cvE, if_neg (by rw [hd]; simp)]
          obtain ⟨eM, eC⟩ := cv_err (by rw [eE]; omega)
          have H_eE := Lib.hid eE; clear eE; have H_eM := Lib.hid eM; clear eM; have H_eC := Lib.hid eC; clear eC; have H_hT := Lib.hid hT; clear hT; have H_ha := Lib.hid ha; clear ha; have H_qa := Lib.hid qa; clear qa; have H_hb := Lib.hid hb; clear hb; have H_qb := Lib.hid qb; clear qb; have H_hd := Lib.hid hd; clear hd; have H_qt := Lib.hid qt; clear qt
          go_wp2_with fail
          (with_reducible refine (H_qa.out _).mono ?_)
          rintro e w_ ⟨rfl, rfl⟩
          go_wp2_with fail
          (with_reducible refine (H_qb.out _).mono ?_)
          rintro e w_ ⟨rfl, rfl⟩
          go_wp2_with fail
          (with_reducible refine (H_qt.out _).mono ?_)
          rintro e w_ ⟨rfl, rfl⟩
          go_upto_region 2 with (fail)
          have gw9 : Below w.heap.size w (putL w1 (w.heap.size + 1) 0 [.int .i64 0, .int .i64 0]) := putL_below (by omega) _ _ _ H_bb1.out
          simp only [putL, Nat.reduceAdd] at gw9
          have H_gw9 := Lib.hid gw9; clear gw9
          have f0 := (H_r1.out 0 _ rfl).free
          have f1 := (H_r1.out 1 _ rfl).free
          go_wp2_with fail
          refine bodyPost_ret (v := .tuple #[.agg #[.int .i64 0, .int .i64 0], .int .i64 1]) (by simp [results, Tryd.results11, go_sem, *]) rfl ⟨by rw [H_eE.out, H_eM.out, H_eC.out], H_gw9.out⟩
        | true =>
          rw [hd] at qt
          have hok : tabB l = true ∧ amtB m = true ∧ curB c = true ∧ curB t = true := ⟨hT, ha, hb, hd⟩
          have H_hT := Lib.hid hT; clear hT; have H_ha := Lib.hid ha; clear ha; have H_qa := Lib.hid qa; clear qa; have H_hb := Lib.hid hb; clear hb; have H_qb := Lib.hid qb; clear qb; have H_hd := Lib.hid hd; clear hd; have H_qt := Lib.hid qt; clear qt; have H_hok := Lib.hid hok; clear hok
          go_wp2_with fail
          (with_reducible refine (H_qa.out _).mono ?_)
          rintro e w_ ⟨rfl, rfl⟩
          go_wp2_with fail
          (with_reducible refine (H_qb.out _).mono ?_)
          rintro e w_ ⟨rfl, rfl⟩
          go_wp2_with fail
          (with_reducible refine (H_qt.out _).mono ?_)
          rintro e w_ ⟨rfl, rfl⟩
          by_cases hct : c = t
          · have i1 : (c == t) = true := by rw [beq_iff_eq]; exact hct
            have eE : cvE l m c t = 0 := by rw [cvE, if_pos H_hok.out, if_pos hct]
            have eM : cvM l m c t = m := by rw [cvM, if_pos eE, if_pos hct]
            have eC : cvC l m c t = c := by rw [cvC, if_pos eE, hct]
            have H_eE := Lib.hid eE; clear eE; have H_eM := Lib.hid eM; clear eM; have H_eC := Lib.hid eC; clear eC; have H_hct := Lib.hid hct; clear hct
            go_upto_region 4 with (fail)
            have gw9 : Below w.heap.size w (putL w1 (w.heap.size + 1) 0 [.int .i64 m, .int .i64 c]) := putL_below (by omega) _ _ _ H_bb1.out
            simp only [putL, Nat.reduceAdd] at gw9
            have H_gw9 := Lib.hid gw9; clear gw9
            have f0 := (H_r1.out 0 _ rfl).free
            have f1 := (H_r1.out 1 _ rfl).free
            go_wp2_with fail
            refine bodyPost_ret (v := .tuple #[.agg #[.int .i64 m, .int .i64 c], .int .i64 0]) (by simp [results, Tryd.results11, go_sem, *]) rfl ⟨by rw [H_eE.out, H_eM.out, H_eC.out], H_gw9.out⟩
          have i1 : (c == t) = false := by rw [beq_eq_false_iff_ne]; exact hct
          go_upto_region 6 with (fail)
          go_loopw [8] (fun i W => ∃ j : Nat, j ≤ n ∧ i = .int .i64 j ∧ (∀ y ∈ l.take j, ¬ (y.f = c ∧ y.t = t)) ∧ Below w1.heap.size w1 W) (fun i _ => n - (intOf i).toNat)
          case atStart => exact ⟨0, by omega, rfl, fun x hx => by simp at hx, Below.refl _ _⟩
          case round =>
            obtain ⟨j, hj, rfl, hno, bz⟩ := hrel
            have bbz := H_bb1.out.trans (bz.mono H_bb1.out.size)
            have lz1 := H_hl.out.below bbz
            have kz := H_k1.out.below bz
            have rz := H_r1.out.below bz
            clear y0 y1 z0 z1 ly lz
            have y0 := (kz 0 _ rfl).at
            have y1 := (kz 1 _ rfl).at
            have z0 := (rz 0 _ rfl).at
            have z1 := (rz 1 _ rfl).at
            have ly := (kz 0 _ rfl).lt
            have lz := (rz 0 _ rfl).lt
            have H_bz := Lib.hid bz; clear bz; have H_bbz := Lib.hid bbz; clear bbz; have H_lz1 := Lib.hid lz1; clear lz1; have H_kz := Lib.hid kz; clear kz; have H_rz := Lib.hid rz; clear rz
            by_cases hjn : j < n
            · have j1 : (j : Int) < (n : Int) := by omega
              have j0 : (0 : Int) ≤ (j : Int) := by omega
              have jz : (j : Int) < 100000 := by omega
              obtain ⟨x, hx5⟩ : ∃ x, l[j]? = some x := ⟨_, List.getElem?_eq_getElem (by rw [H_hln.out]; omega)⟩
              obtain ⟨b2, off2, rfl, hbl2, hf2, x0, x1, x2, x3⟩ := H_lz1.out.at hx5
              have snoc := fun h1 => take_all_snoc (P := fun y : Exc => ¬ (y.f = c ∧ y.t = t)) hx5 hno h1
              have H_hno := Lib.hid hno; clear hno; have H_hx5 := Lib.hid hx5; clear hx5; have H_hf2 := Lib.hid hf2; clear hf2; have H_snoc := Lib.hid snoc; clear snoc
              by_cases c1 : x.f = c
              · have d1 : (x.f == c) = true := by simp [c1]
                by_cases c2 : x.t = t
                · have d2 : (x.t == t) = true := by simp [c2]
                  have hf := fnd_at H_hx5.out H_hno.out c1 c2
                  have hxe := tab_mem H_hok.out.1 (fndX_mem hf).1
                  have hrt : ratB x.n x.d = true := by
                    simp only [excB, Bool.and_eq_true] at hxe
                    exact hxe.1.2
                  have q2 := fun W => qpart_any m x.n x.d H_hm.out (wf_i64 H_hf2.out.n) (wf_i64 H_hf2.out.d) W
                  have qE : ptE m x.n x.d = if amtB (rdE (m * x.n) x.d) = true then 0 else 3 := by rw [ptE, if_pos ⟨hrt, H_ha.out⟩]
                  have eE0 : cvE l m c t = ptE m x.n x.d := by rw [cvE, if_pos H_hok.out, if_neg hct, hf, qE]
                  have eM0 : cvM l m c t = ptV m x.n x.d := by
                    rw [cvM, ptV, eE0]
                    by_cases h : ptE m x.n x.d = 0
                    · rw [if_pos h, if_pos h, if_neg hct, hf]
                    · rw [if_neg h, if_neg h]
                  have H_c1 := Lib.hid c1; clear c1; have H_c2 := Lib.hid c2; clear c2; have H_hf := Lib.hid hf; clear hf; have H_hxe := Lib.hid hxe; clear hxe; have H_hrt := Lib.hid hrt; clear hrt
                  go_upto_region 8 with (fail)
                  go_quiet (fail)
                  go_upto_region 9 with (fail)
                  obtain ⟨w3, hw3⟩ : ∃ W, wr.drewN nq = W := ⟨_, rfl⟩
                  rw [hw3]
                  have c3 : Below wr.heap.size wr w3 := by rw [← hw3]; exact below_drewN (Below.refl _ _) _
                  have bb3 := H_bbz.out.trans (c3.mono H_bbz.out.size)
                  have k3 := H_kz.out.below c3
                  have r3 := H_rz.out.below c3
                  obtain ⟨_, _, hA9, hbl9, _, x0, x1, x2, x3⟩ := (H_lz1.out.below c3).at H_hx5.out
                  injection hA9 with hA9
                  injection hA9 with hA1 hA2 _
                  subst hA1 hA2
                  have H_hw3 := Lib.hid hw3; clear hw3; have H_c3 := Lib.hid c3; clear c3; have H_bb3 := Lib.hid bb3; clear bb3; have H_k3 := Lib.hid k3; clear k3; have H_r3 := Lib.hid r3; clear r3
                  clear y0 y1 z0 z1 ly lz
                  have y0 := (H_k3.out 0 _ rfl).at
                  have y1 := (H_k3.out 1 _ rfl).at
                  have ly := (H_k3.out 0 _ rfl).lt
                  cases hA : amtB (rdE (m * x.n) x.d) with
                  | false =>
                    rw [hA, if_neg (by simp)] at qE
                    have qV : ptV m x.n x.d = 0 := by rw [ptV, qE, if_neg (by omega)]
                    rw [qE, qV] at q2
                    have eE : cvE l m c t = 3 := by rw [eE0, qE]
                    obtain ⟨eM, eC⟩ := cv_err (by rw [eE]; omega)
                    have H_eE := Lib.hid eE; clear eE; have H_eM := Lib.hid eM; clear eM; have H_eC := Lib.hid eC; clear eC; have H_eE0 := Lib.hid eE0; clear eE0; have H_eM0 := Lib.hid eM0; clear eM0; have H_qE := Lib.hid qE; clear qE; have H_qV := Lib.hid qV; clear qV; have H_q2 := Lib.hid q2; clear q2; have H_hA := Lib.hid hA; clear hA
                    refine wp_region_held_drew (S := (fun W => (∀ b o, b < w3.heap.size → W.cell? ⟨b, o, none⟩ = w3.cell? ⟨b, o, none⟩) ∧ Below w3.heap.size w3 W)) (by kernel_rfl) ?_ (fun hHeld => ?_)
                    · (try dsimp only); (first | (refine ext_mk ?_; (repeat (first | with_reducible exact Below.refl _ _ | with_reducible exact Nat.le_refl _ | with_reducible assumption | with_reducible refine Below.drew ?_ | with_reducible refine below_drewN ?_ _ | with_reducible refine Below.alloc ?_ ?_ _ | with_reducible refine Below.setCell ?_ ?_ _ | with_reducible exact And.right (by assumption) | with_reducible refine Below.trans ?_ (Below.mono (by assumption) ?_) | with_reducible exact Below.size (And.right (by assumption)) | (focus omega) | (focus (simp; done)) | (focus (simp; omega)) | (focus (simp at *; omega))))))
                    refine take_at (i := 0) (some 61) rfl rfl (by kernel_rfl) (fun _ _ _ h => h) (by rfl) (v := ?_) ?_ (by assumption) ?_
                    rotate_left
                    · intro W hSw; (try dsimp only at hSw); go_simp; (try with_reducible rfl)
                    (try simp only [Act.put, List.setIfInBounds_toArray, List.set_cons_zero, List.set_cons_succ])
                    refine take_at (i := 1) (some 62) rfl rfl (by kernel_rfl) (fun _ _ _ h => h) (by rfl) (v := ?_) ?_ (by assumption) ?_
                    rotate_left
                    · intro W hSw; (try dsimp only at hSw); go_simp; (try with_reducible rfl)
                    (try simp only [Act.put, List.setIfInBounds_toArray, List.set_cons_zero, List.set_cons_succ])
                    refine take_at (i := 2) (some 63) rfl rfl (by kernel_rfl) (fun _ _ _ h => h) (by rfl) (v := ?_) ?_ (by assumption) ?_
                    rotate_left
                    · intro W hSw; (try dsimp only at hSw); go_simp; (try with_reducible rfl)
                    (try simp only [Act.put, List.setIfInBounds_toArray, List.set_cons_zero, List.set_cons_succ])
                    refine take_at (i := 3) (some 64) rfl rfl (by kernel_rfl) (fun _ _ _ h => h) (by rfl) (v := ?_) ?_ (by assumption) ?_
                    rotate_left
                    · intro W hSw; (try dsimp only at hSw); go_simp; (try with_reducible rfl)
                    (try simp only [Act.put, List.setIfInBounds_toArray, List.set_cons_zero, List.set_cons_succ])
                    refine take_at (i := 4) (some 65) rfl rfl (by kernel_rfl) (fun _ _ _ h => h) (by rfl) (v := ?_) ?_ (by assumption) ?_
                    rotate_left
                    · intro W hSw; (try dsimp only at hSw); go_simp; (try with_reducible rfl)
                    (try simp only [Act.put, List.setIfInBounds_toArray, List.set_cons_zero, List.set_cons_succ])
                    refine take_at (i := 5) (some 66) rfl rfl (by kernel_rfl) (fun _ _ _ h => h) (by rfl) (v := ?_) ?_ (by assumption) ?_
                    rotate_left
                    · intro W hSw; (try dsimp only at hSw); go_simp; (try with_reducible rfl)
                    (try simp only [Act.put, List.setIfInBounds_toArray, List.set_cons_zero, List.set_cons_succ])
                    refine take_at (i := 6) (some 67) rfl rfl (by kernel_rfl) (fun _ _ _ h => h) (by rfl) (v := ?_) ?_ (by assumption) ?_
                    rotate_left
                    · intro W hSw; (try dsimp only at hSw); go_simp; (try with_reducible rfl)
                    (try simp only [Act.put, List.setIfInBounds_toArray, List.set_cons_zero, List.set_cons_succ])
                    refine wpAnyH_ready (rs := [7]) (by kernel_rfl) (by simp) ?_
                    refine AllReadyH.cons rfl (fun K hK => ?_) AllReadyH.nil
                    go_simp
                    (go_at_call 29; (with_reducible refine (H_q2.out _).mono ?_); rintro e w5 ⟨rfl, hbw5⟩; have gw5 := Below.trans (And.right (by assumption : _ ∧ Below w3.heap.size w3 _)) (hbw5.mono (Below.size (And.right (by assumption : _ ∧ Below w3.heap.size w3 _)))); have gsw5 := gw5.size; have hcf := bcell hbw5; have hcw5 := hcf.1; have hfw5 := hcf.2; have hsw5 := hbw5.size; (try simp only [World.size_alloc, World.heap_drewN, heap_drew] at hsw5); clear hbw5 hcf; (try have hzw5 : w3.heap.size < w5.heap.size := by omega))
                    refine hK.out _ _ ?_ (fun hHeld => ?_)
                    · (try dsimp only); (first | (refine ext_mk ?_; (repeat (first | with_reducible exact Below.refl _ _ | with_reducible exact Nat.le_refl _ | with_reducible assumption | with_reducible refine Below.drew ?_ | with_reducible refine below_drewN ?_ _ | with_reducible refine Below.alloc ?_ ?_ _ | with_reducible refine Below.setCell ?_ ?_ _ | with_reducible exact And.right (by assumption) | with_reducible refine Below.trans ?_ (Below.mono (by assumption) ?_) | with_reducible exact Below.size (And.right (by assumption)) | (focus omega) | (focus (simp; done)) | (focus (simp; omega)) | (focus (simp at *; omega))))))
                    clear hK K
                    (try simp only [Act.put, List.setIfInBounds_toArray, List.set_cons_zero, List.set_cons_succ])
                    refine take_at (i := 8) (some 60) rfl rfl (by kernel_rfl) (fun _ _ _ h => h) (by rfl) (v := ?_) ?_ (by assumption) ?_
                    rotate_left
                    · intro W hSw; (try dsimp only at hSw); go_simp; (try with_reducible rfl)
                    (try simp only [Act.put, List.setIfInBounds_toArray, List.set_cons_zero, List.set_cons_succ])
                    refine take_at (i := 9) (some 69) rfl rfl (by kernel_rfl) (fun _ _ _ h => h) (by rfl) (v := ?_) ?_ (by assumption) ?_
                    rotate_left
                    · intro W hSw; (try dsimp only at hSw); go_simp; (try with_reducible rfl)
                    (try simp only [Act.put, List.setIfInBounds_toArray, List.set_cons_zero, List.set_cons_succ])
                    refine take_at (i := 10) (some 70) rfl rfl (by kernel_rfl) (fun _ _ _ h => h) (by rfl) (v := ?_) ?_ (by assumption) ?_
                    rotate_left
                    · intro W hSw; (try dsimp only at hSw); go_simp; (try with_reducible rfl)
                    (try simp only [Act.put, List.setIfInBounds_toArray, List.set_cons_zero, List.set_cons_succ])
                    refine take_at (i := 11) (some 9) rfl rfl (by kernel_rfl) (fun _ _ _ h => h) (by rfl) (v := ?_) ?_ (by assumption) ?_
                    rotate_left
                    · intro W hSw; (try dsimp only at hSw); go_simp; (try with_reducible rfl)
                    (try simp only [Act.put, List.setIfInBounds_toArray, List.set_cons_zero, List.set_cons_succ])
                    refine take_at (i := 12) (some 10) rfl rfl (by kernel_rfl) (fun _ _ _ h => h) (by rfl) (v := ?_) ?_ (by assumption) ?_
                    rotate_left
                    · intro W hSw; (try dsimp only at hSw); go_simp; (try with_reducible rfl)
                    (try simp only [Act.put, List.setIfInBounds_toArray, List.set_cons_zero, List.set_cons_succ])
                    refine wpAnyH_done (by kernel_rfl) ?_ _
                    have g6 : Below w3.heap.size w3 _ := And.right (by assumption)
                    have bb6 := H_bb3.out.trans (g6.mono H_bb3.out.size)
                    have r6 := H_r3.out.below g6
                    clear y0 y1 ly x0 x1 x2 x3
                    have z0 := (r6 0 _ rfl).at
                    have z1 := (r6 1 _ rfl).at
                    have lz := (r6 0 _ rfl).lt
                    have H_g6 := Lib.hid g6; clear g6; have H_bb6 := Lib.hid bb6; clear bb6; have H_r6 := Lib.hid r6; clear r6
                    go_upto_region 11 with (fail)
                    have gw9 : Below w.heap.size w (putL w5 (w.heap.size + 1) 0 [.int .i64 0, .int .i64 0]) := putL_below (by omega) _ _ _ H_bb6.out
                    simp only [putL, Nat.reduceAdd] at gw9
                    have H_gw9 := Lib.hid gw9; clear gw9
                    have f0 := (H_r6.out 0 _ rfl).free
                    have f1 := (H_r6.out 1 _ rfl).free
                    go_wp2_with fail
                    refine bodyPost_ret (v := .tuple #[.agg #[.int .i64 0, .int .i64 0], .int .i64 3]) (by simp [results, Tryd.results11, go_sem, *]) rfl ⟨by rw [H_eE.out, H_eM.out, H_eC.out], H_gw9.out⟩
                  | true =>
                    rw [hA, if_pos rfl] at qE
                    have qV : ptV m x.n x.d = rdE (m * x.n) x.d := by rw [ptV, qE, if_pos rfl]
                    rw [qE, qV] at q2
                    have eE : cvE l m c t = 0 := by rw [eE0, qE]
                    have eM : cvM l m c t = rdE (m * x.n) x.d := by rw [eM0, qV]
                    have eC : cvC l m c t = t := by rw [cvC, if_pos eE]
                    have q3 := fun W => ramount_any (rdE (m * x.n) x.d) W
                    rw [hA] at q3
                    generalize rdE (m * x.n) x.d = V at *
                    have H_eE := Lib.hid eE; clear eE; have H_eM := Lib.hid eM; clear eM; have H_eC := Lib.hid eC; clear eC; have H_eE0 := Lib.hid eE0; clear eE0; have H_eM0 := Lib.hid eM0; clear eM0; have H_qE := Lib.hid qE; clear qE; have H_qV := Lib.hid qV; clear qV; have H_q2 := Lib.hid q2; clear q2; have H_q3 := Lib.hid q3; clear q3; have H_hA := Lib.hid hA; clear hA
                    refine wp_region_held_drew (S := (fun W => (∀ b o, b < w3.heap.size → W.cell? ⟨b, o, none⟩ = w3.cell? ⟨b, o, none⟩) ∧ Below w3.heap.size w3 W)) (by kernel_rfl) ?_ (fun hHeld => ?_)
                    · (try dsimp only); (first | (refine ext_mk ?_; (repeat (first | with_reducible exact Below.refl _ _ | with_reducible exact Nat.le_refl _ | with_reducible assumption | with_reducible refine Below.drew ?_ | with_reducible refine below_drewN ?_ _ | with_reducible refine Below.alloc ?_ ?_ _ | with_reducible refine Below.setCell ?_ ?_ _ | with_reducible exact And.right (by assumption) | with_reducible refine Below.trans ?_ (Below.mono (by assumption) ?_) | with_reducible exact Below.size (And.right (by assumption)) | (focus omega) | (focus (simp; done)) | (focus (simp; omega)) | (focus (simp at *; omega))))))
                    refine take_at (i := 0) (some 61) rfl rfl (by kernel_rfl) (fun _ _ _ h => h) (by rfl) (v := ?_) ?_ (by assumption) ?_
                    rotate_left
                    · intro W hSw; (try dsimp only at hSw); go_simp; (try with_reducible rfl)
                    (try simp only [Act.put, List.setIfInBounds_toArray, List.set_cons_zero, List.set_cons_succ])
                    refine take_at (i := 1) (some 62) rfl rfl (by kernel_rfl) (fun _ _ _ h => h) (by rfl) (v := ?_) ?_ (by assumption) ?_
                    rotate_left
                    · intro W hSw; (try dsimp only at hSw); go_simp; (try with_reducible rfl)
                    (try simp only [Act.put, List.setIfInBounds_toArray, List.set_cons_zero, List.set_cons_succ])
                    refine take_at (i := 2) (some 63) rfl rfl (by kernel_rfl) (fun _ _ _ h => h) (by rfl) (v := ?_) ?_ (by assumption) ?_
                    rotate_left
                    · intro W hSw; (try dsimp only at hSw); go_simp; (try with_reducible rfl)
                    (try simp only [Act.put, List.setIfInBounds_toArray, List.set_cons_zero, List.set_cons_succ])
                    refine take_at (i := 3) (some 64) rfl rfl (by kernel_rfl) (fun _ _ _ h => h) (by rfl) (v := ?_) ?_ (by assumption) ?_
                    rotate_left
                    · intro W hSw; (try dsimp only at hSw); go_simp; (try with_reducible rfl)
                    (try simp only [Act.put, List.setIfInBounds_toArray, List.set_cons_zero, List.set_cons_succ])
                    refine take_at (i := 4) (some 65) rfl rfl (by kernel_rfl) (fun _ _ _ h => h) (by rfl) (v := ?_) ?_ (by assumption) ?_
                    rotate_left
                    · intro W hSw; (try dsimp only at hSw); go_simp; (try with_reducible rfl)
                    (try simp only [Act.put, List.setIfInBounds_toArray, List.set_cons_zero, List.set_cons_succ])
                    refine take_at (i := 5) (some 66) rfl rfl (by kernel_rfl) (fun _ _ _ h => h) (by rfl) (v := ?_) ?_ (by assumption) ?_
                    rotate_left
                    · intro W hSw; (try dsimp only at hSw); go_simp; (try with_reducible rfl)
                    (try simp only [Act.put, List.setIfInBounds_toArray, List.set_cons_zero, List.set_cons_succ])
                    refine take_at (i := 6) (some 67) rfl rfl (by kernel_rfl) (fun _ _ _ h => h) (by rfl) (v := ?_) ?_ (by assumption) ?_
                    rotate_left
                    · intro W hSw; (try dsimp only at hSw); go_simp; (try with_reducible rfl)
                    (try simp only [Act.put, List.setIfInBounds_toArray, List.set_cons_zero, List.set_cons_succ])
                    refine wpAnyH_ready (rs := [7]) (by kernel_rfl) (by simp) ?_
                    refine AllReadyH.cons rfl (fun K hK => ?_) AllReadyH.nil
                    go_simp
                    (go_at_call 29; (with_reducible refine (H_q2.out _).mono ?_); rintro e w5 ⟨rfl, hbw5⟩; have gw5 := Below.trans (And.right (by assumption : _ ∧ Below w3.heap.size w3 _)) (hbw5.mono (Below.size (And.right (by assumption : _ ∧ Below w3.heap.size w3 _)))); have gsw5 := gw5.size; have hcf := bcell hbw5; have hcw5 := hcf.1; have hfw5 := hcf.2; have hsw5 := hbw5.size; (try simp only [World.size_alloc, World.heap_drewN, heap_drew] at hsw5); clear hbw5 hcf; (try have hzw5 : w3.heap.size < w5.heap.size := by omega))
                    refine hK.out _ _ ?_ (fun hHeld => ?_)
                    · (try dsimp only); (first | (refine ext_mk ?_; (repeat (first | with_reducible exact Below.refl _ _ | with_reducible exact Nat.le_refl _ | with_reducible assumption | with_reducible refine Below.drew ?_ | with_reducible refine below_drewN ?_ _ | with_reducible refine Below.alloc ?_ ?_ _ | with_reducible refine Below.setCell ?_ ?_ _ | with_reducible exact And.right (by assumption) | with_reducible refine Below.trans ?_ (Below.mono (by assumption) ?_) | with_reducible exact Below.size (And.right (by assumption)) | (focus omega) | (focus (simp; done)) | (focus (simp; omega)) | (focus (simp at *; omega))))))
                    clear hK K
                    (try simp only [Act.put, List.setIfInBounds_toArray, List.set_cons_zero, List.set_cons_succ])
                    refine take_at (i := 8) (some 60) rfl rfl (by kernel_rfl) (fun _ _ _ h => h) (by rfl) (v := ?_) ?_ (by assumption) ?_
                    rotate_left
                    · intro W hSw; (try dsimp only at hSw); go_simp; (try with_reducible rfl)
                    (try simp only [Act.put, List.setIfInBounds_toArray, List.set_cons_zero, List.set_cons_succ])
                    refine take_at (i := 9) (some 69) rfl rfl (by kernel_rfl) (fun _ _ _ h => h) (by rfl) (v := ?_) ?_ (by assumption) ?_
                    rotate_left
                    · intro W hSw; (try dsimp only at hSw); go_simp; (try with_reducible rfl)
                    (try simp only [Act.put, List.setIfInBounds_toArray, List.set_cons_zero, List.set_cons_succ])
                    refine take_at (i := 10) (some 70) rfl rfl (by kernel_rfl) (fun _ _ _ h => h) (by rfl) (v := ?_) ?_ (by assumption) ?_
                    rotate_left
                    · intro W hSw; (try dsimp only at hSw); go_simp; (try with_reducible rfl)
                    (try simp only [Act.put, List.setIfInBounds_toArray, List.set_cons_zero, List.set_cons_succ])
                    refine take_at (i := 11) (some 9) rfl rfl (by kernel_rfl) (fun _ _ _ h => h) (by rfl) (v := ?_) ?_ (by assumption) ?_
                    rotate_left
                    · intro W hSw; (try dsimp only at hSw); go_simp; (try with_reducible rfl)
                    (try simp only [Act.put, List.setIfInBounds_toArray, List.set_cons_zero, List.set_cons_succ])
                    refine take_at (i := 12) (some 10) rfl rfl (by kernel_rfl) (fun _ _ _ h => h) (by rfl) (v := ?_) ?_ (by assumption) ?_
                    rotate_left
                    · intro W hSw; (try dsimp only at hSw); go_simp; (try with_reducible rfl)
                    (try simp only [Act.put, List.setIfInBounds_toArray, List.set_cons_zero, List.set_cons_succ])
                    refine wpAnyH_done (by kernel_rfl) ?_ _
                    have g6 : Below w3.heap.size w3 _ := And.right (by assumption)
                    have bb6 := H_bb3.out.trans (g6.mono H_bb3.out.size)
                    have r6 := H_r3.out.below g6
                    clear y0 y1 ly x0 x1 x2 x3
                    have z0 := (r6 0 _ rfl).at
                    have z1 := (r6 1 _ rfl).at
                    have lz := (r6 0 _ rfl).lt
                    have H_g6 := Lib.hid g6; clear g6; have H_bb6 := Lib.hid bb6; clear bb6; have H_r6 := Lib.hid r6; clear r6
                    go_wp2_with fail
                    (with_reducible refine (H_q3.out _).mono ?_)
                    rintro e w_ ⟨rfl, rfl⟩
                    go_upto_region 12 with (fail)
                    have gw9 : Below w.heap.size w (putL w5 (w.heap.size + 1) 0 [.int .i64 V, .int .i64 t]) := putL_below (by omega) _ _ _ H_bb6.out
                    simp only [putL, Nat.reduceAdd] at gw9
                    have H_gw9 := Lib.hid gw9; clear gw9
                    have f0 := (H_r6.out 0 _ rfl).free
                    have f1 := (H_r6.out 1 _ rfl).free
                    go_wp2_with fail
                    refine bodyPost_ret (v := .tuple #[.agg #[.int .i64 V, .int .i64 t], .int .i64 0]) (by simp [results, Tryd.results11, go_sem, *]) rfl ⟨by rw [H_eE.out, H_eM.out, H_eC.out], H_gw9.out⟩
                · have d2 : (x.t == t) = false := by simp [c2]
                  have h9 := H_snoc.out (fun h => c2 h.2)
                  have H_c1 := Lib.hid c1; clear c1; have H_c2 := Lib.hid c2; clear c2; have H_h9 := Lib.hid h9; clear h9
                  go_upto_region 8 with (fail)
                  go_quiet (fail)
                  go_wp2_with fail
                  go_roundw
                  case rel => exact ⟨j + 1, by omega, by go_num, H_h9.out, below_drewN H_bz.out _⟩
                  case measure => simp [intOf]; omega
              · have d1 : (x.f == c) = false := by simp [c1]
                have h9 := H_snoc.out (fun h => c1 h.1)
                have H_c1 := Lib.hid c1; clear c1; have H_h9 := Lib.hid h9; clear h9
                go_upto_region 8 with (fail)
                go_quiet (fail)
                go_wp2_with fail
                go_roundw
                case rel => exact ⟨j + 1, by omega, by go_num, H_h9.out, below_drewN H_bz.out _⟩
                case measure => simp [intOf]; omega
            · have j1 : ¬ (j : Int) < (n : Int) := by omega
              rw [List.take_of_length_le (by rw [H_hln.out]; omega)] at hno
              have hf := fnd_not hno
              have eE : cvE l m c t = 4 := by rw [cvE, if_pos H_hok.out, if_neg hct, hf]
              obtain ⟨eM, eC⟩ := cv_err (by rw [eE]; omega)
              have H_eE := Lib.hid eE; clear eE; have H_eM := Lib.hid eM; clear eM; have H_eC := Lib.hid eC; clear eC; have H_hno := Lib.hid hno; clear hno; have H_hf := Lib.hid hf; clear hf
              go_upto_region 13 with (fail)
              have gw9 : Below w.heap.size w (putL wr (w.heap.size + 1) 0 [.int .i64 0, .int .i64 0]) := putL_below (by omega) _ _ _ H_bbz.out
              simp only [putL, Nat.reduceAdd] at gw9
              have H_gw9 := Lib.hid gw9; clear gw9
              have f0 := (H_rz.out 0 _ rfl).free
              have f1 := (H_rz.out 1 _ rfl).free
              go_wp2_with fail
              refine bodyPost_ret (v := .tuple #[.agg #[.int .i64 0, .int .i64 0], .int .i64 4]) (by simp [results, Tryd.results11, go_sem, *]) rfl ⟨by rw [H_eE.out, H_eM.out, H_eC.out], H_gw9.out⟩
end Go.Proofs.YtaloadadecoogaaDoor

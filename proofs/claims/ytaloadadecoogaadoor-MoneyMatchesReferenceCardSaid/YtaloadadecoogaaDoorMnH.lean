/- Contracts of package money: Valid, Convert. -/
import Derived.Test.YtaloadadecoogaaDoorMnG
namespace Go.Proofs.YtaloadadecoogaaDoor
set_option linter.unusedSimpArgs false
set_option linter.unusedVariables false
set_option maxRecDepth 100000
open Go.RowKit Go.Maps

theorem mvalid_any (A : Option Addr) (cp n : Nat) (l : List Exc) (hln : l.length = n) (hn : n ≤ 100000) (w : World) (hl : Excs w A l) :
    Calls Tryd.prog 12 #[.slice A n cp] w fun e w' => e = .returned (.bool (tabB l)) ∧ Below w.heap.size w w' := by
  have q := table_any A cp n l hln hn w hl
  unfold TabPost at q
  have H_q := Lib.hid q; clear q; have H_hln := Lib.hid hln; clear hln; have H_hn := Lib.hid hn; clear hn; have H_hl := Lib.hid hl; clear hl
  go_enter Tryd.func12, Tryd.ntmps12
  go_wp2_with fail
  (with_reducible refine (H_q.out).mono ?_)
  rintro e w2 ⟨v, rfl, _, bb2⟩
  have H_bb2 := Lib.hid bb2; clear bb2
  go_wp2_with fail
  go_ret
  exact ⟨rfl, H_bb2.out⟩
/-- two pairs of integers compared -/
theorem eq_way (a b c d : Int) (ha : -9223372036854775808 ≤ a ∧ a ≤ 9223372036854775807) (hb : -9223372036854775808 ≤ b ∧ b ≤ 9223372036854775807) (hc : -9223372036854775808 ≤ c ∧ c ≤ 9223372036854775807) (hd : -9223372036854775808 ≤ d ∧ d ≤ 9223372036854775807) {R : Bool} (hR : decide (a = c ∧ b = d) = R) (w : World) :
    Sem.run Tryd.prog (Op.equalIn 10000 57 (.agg #[.int .i64 a, .int .i64 b]) (.agg #[.int .i64 c, .int .i64 d])) w = .ok R w := by
  have c1 : Tryd.prog.cellsOf 3 = 1 := by kernel_rfl
  have c2 : Tryd.prog.cellsOf 57 = 2 := by kernel_rfl
  have k1 : ∀ d n, (Lit.int .i64 n).wf = true → Tryd.prog.keyLits (d + 1) 3 [.int .i64 n] = some [.int .i64 n] := fun d n h => by simp [Program.keyLits, Tryd.underlying3, h]
  have r2 : List.range 2 = [0, 1] := rfl
  have k2 : ∀ a b, (Lit.int .i64 a).wf = true → (Lit.int .i64 b).wf = true → Tryd.prog.keyLits 10 57 [.int .i64 a, .int .i64 b] = some [.int .i64 a, .int .i64 b] := fun a b h1 h2 => by
    unfold Program.keyLits
    rw [Tryd.underlying57]
    simp [c1, c2, r2, List.mapM_cons, k1 8 _ h1, k1 8 _ h2]
  obtain ⟨r, hr, hi⟩ := run_equalIn_deep (P := Tryd.prog) 9990 10 57 (by kernel_rfl) w 10 10 (.agg #[.int .i64 a, .int .i64 b]) (.agg #[.int .i64 c, .int .i64 d]) _ _ (by kernel_rfl) (by kernel_rfl) (k2 a b (WalkArith.wf_i64 ha) (WalkArith.wf_i64 hb)) (k2 c d (WalkArith.wf_i64 hc) (WalkArith.wf_i64 hd))
  have e : r = R := by
    rw [← hR, Bool.eq_iff_iff, hi]
    simp
  rw [← e]; exact hr
/-- two amounts with their currencies compared -/
theorem eq_money (a b c d : Int) (ha : -9223372036854775808 ≤ a ∧ a ≤ 9223372036854775807) (hb : -9223372036854775808 ≤ b ∧ b ≤ 9223372036854775807) (hc : -9223372036854775808 ≤ c ∧ c ≤ 9223372036854775807) (hd : -9223372036854775808 ≤ d ∧ d ≤ 9223372036854775807) {R : Bool} (hR : decide (a = c ∧ b = d) = R) (w : World) :
    Sem.run Tryd.prog (Op.equalIn 10000 24 (.agg #[.int .i64 a, .int .i64 b]) (.agg #[.int .i64 c, .int .i64 d])) w = .ok R w := by
  have c1 : Tryd.prog.cellsOf 3 = 1 := by kernel_rfl
  have c2 : Tryd.prog.cellsOf 24 = 2 := by kernel_rfl
  have k1 : ∀ d n, (Lit.int .i64 n).wf = true → Tryd.prog.keyLits (d + 1) 3 [.int .i64 n] = some [.int .i64 n] := fun d n h => by simp [Program.keyLits, Tryd.underlying3, h]
  have r2 : List.range 2 = [0, 1] := rfl
  have k2 : ∀ a b, (Lit.int .i64 a).wf = true → (Lit.int .i64 b).wf = true → Tryd.prog.keyLits 10 24 [.int .i64 a, .int .i64 b] = some [.int .i64 a, .int .i64 b] := fun a b h1 h2 => by
    unfold Program.keyLits
    rw [Tryd.underlying24]
    simp [c1, c2, r2, List.mapM_cons, k1 8 _ h1, k1 8 _ h2]
  obtain ⟨r, hr, hi⟩ := run_equalIn_deep (P := Tryd.prog) 9990 10 24 (by kernel_rfl) w 10 10 (.agg #[.int .i64 a, .int .i64 b]) (.agg #[.int .i64 c, .int .i64 d]) _ _ (by kernel_rfl) (by kernel_rfl) (k2 a b (WalkArith.wf_i64 ha) (WalkArith.wf_i64 hb)) (k2 c d (WalkArith.wf_i64 hc) (WalkArith.wf_i64 hd))
  have e : r = R := by
    rw [← hR, Bool.eq_iff_iff, hi]
    simp
  rw [← e]; exact hr
theorem fnd_none : ∀ {l : List Exc} {a b : Int}, fndX l a b = none → (a, b) ∉ l.map keyX
  | [], _, _, _ => by simp
  | x :: r, a, b, h => by
    rw [fndX] at h
    split at h
    · cases h
    · rename_i hx
      rw [List.map_cons, List.mem_cons]
      rintro (e | e)
      · simp only [keyX, Prod.mk.injEq] at e; exact hx ⟨e.1.symm, e.2.symm⟩
      · exact fnd_none h e
theorem cv_err {l : List Exc} {m c t : Int} (h : cvE l m c t ≠ 0) : cvM l m c t = 0 ∧ cvC l m c t = 0 := ⟨by rw [cvM, if_neg h], by rw [cvC, if_neg h]⟩
theorem zero_rat (w : World) : (zeroValue 40).run Tryd.prog w = .ok (.agg #[.int .i64 0, .int .i64 0]) w := by kernel_rfl
set_option maxHeartbeats 8000000 in
theorem mconvert_any (A : Option Addr) (cp n : Nat) (l : List Exc) (m c t : Int) (hln : l.length = n) (hn : n ≤ 100000) (hm : -9223372036854775808 ≤ m ∧ m ≤ 9223372036854775807) (hc : -9223372036854775808 ≤ c ∧ c ≤ 9223372036854775807) (ht : -9223372036854775808 ≤ t ∧ t ≤ 9223372036854775807) (w : World) (hl : Excs w A l) :
    Calls Tryd.prog 10 #[.slice A n cp, .agg #[.int .i64 m, .int .i64 c], .int .i64 t] w fun e w' => e = .returned (.tuple #[.agg #[.int .i64 (cvM l m c t), .int .i64 (cvC l m c t)], .int .i64 (cvE l m c t)]) ∧ Below w.heap.size w w' := by
  have hfit := hl.fit
  obtain ⟨w0, hw0⟩ : ∃ W, (w.alloc (.cells #[.int .i64 m, .int .i64 c] 24)).alloc (.cells #[.int .i64 0, .int .i64 0] 24) = W := ⟨_, rfl⟩
  have bb0 : Below w.heap.size w w0 := by rw [← hw0]; exact ((Below.refl _ _).alloc (Nat.le_refl _) _).alloc (by simp) _
  have k0 : Blk w0 w.heap.size #[.int .i64 m, .int .i64 c] := by
    rw [← hw0]
    exact (blk_new (w := w) (t := 24) rfl).below ((Below.refl _ _).alloc (Nat.le_refl _) _)
  have r0 : Blk w0 (w.heap.size + 1) #[.int .i64 0, .int .i64 0] := by
    have h := blk_new (w := w.alloc (.cells #[.int .i64 m, .int .i64 c] 24)) (vs := #[.int .i64 0, .int .i64 0]) (t := 24) rfl
    rw [hw0] at h
    simpa using h
  have q1 := table_any A cp n l hln hn w0 (hl.below bb0)
  unfold TabPost at q1
  have qa := fun W => misAmount_any m W
  have qb := fun W => misCurrency_any c W
  have qt := fun W => misCurrency_any t W
  have H_hfit := Lib.hid hfit; clear hfit; have H_hw0 := Lib.hid hw0; clear hw0; have H_bb0 := Lib.hid bb0; clear bb0; have H_k0 := Lib.hid k0; clear k0; have H_r0 := Lib.hid r0; clear r0; have H_q1 := Lib.hid q1; clear q1; have H_qa := Lib.hid qa; clear qa; have H_qb := Lib.hid qb; clear qb; have H_qt := Lib.hid qt; clear qt; have H_hln := Lib.hid hln; clear hln; have H_hn := Lib.hid hn; clear hn; have H_hl := Lib.hid hl; clear hl; have H_hm := Lib.hid hm; clear hm; have H_hc := Lib.hid hc; clear hc; have H_ht := Lib.hid ht; clear ht
  go_enter Tryd.func10, Tryd.ntmps10
  go_wp2_with fail
  rw [H_hw0.out]
  go_wp2_with fail
  (with_reducible refine (H_q1.out).mono ?_)
  rintro e w1 ⟨v, rfl, hv, b1⟩
  have bb1 := H_bb0.out.trans (b1.mono H_bb0.out.size)
  have k1 := H_k0.out.below b1
  have r1 := H_r0.out.below b1
  have y0 := (k1 0 _ rfl).at
  have y1 := (k1 1 _ rfl).at
  have z0 := (r1 0 _ rfl).at
  have z1 := (r1 1 _ rfl).at
  have ly := (k1 0 _ rfl).lt
  have lz := (r1 0 _ rfl).lt
  have H_b1 := Lib.hid b1; clear b1; have H_bb1 := Lib.hid bb1; clear bb1; have H_k1 := Lib.hid k1; clear k1; have H_r1 := Lib.hid r1; clear r1
  cases hT : tabB l with
  | false =>
    clear hv
    have eE : cvE l m c t = 1 := by rw [cvE, if_neg (by rw [hT]; simp)]
    obtain ⟨eM, eC⟩ := cv_err (by rw [eE]; omega)
    have H_eE := Lib.hid eE; clear eE; have H_eM := Lib.hid eM; clear eM; have H_eC := Lib.hid eC; clear eC; have H_hT := Lib.hid hT; clear hT
    go_upto_region 3 with (fail)
    have gw9 : Below w.heap.size w (putL w1 (w.heap.size + 1) 0 [.int .i64 0, .int .i64 0]) := putL_below (by omega) _ _ _ H_bb1.out
    simp only [putL, Nat.reduceAdd] at gw9
    have H_gw9 := Lib.hid gw9; clear gw9
    have f0 := (H_r1.out 0 _ rfl).free
    have f1 := (H_r1.out 1 _ rfl).free
    go_wp2_with fail
    refine bodyPost_ret (v := .tuple #[.agg #[.int .i64 0, .int .i64 0], .int .i64 1]) (by simp [results, Tryd.results10, go_sem, *]) rfl ⟨by rw [H_eE.out, H_eM.out, H_eC.out], H_gw9.out⟩
  | true =>
    obtain ⟨bm, rfl, mp⟩ := hv hT
    clear hv
    have qa := H_qa.out
    have H_mp := Lib.hid mp; clear mp
    cases ha : amtB m with
    | false =>
      rw [ha] at qa
      have eE : cvE l m c t = 1 := by rw [cvE, if_neg (by rw [ha]; simp)]
      obtain ⟨eM, eC⟩ := cv_err (by rw [eE]; omega)
      have H_eE := Lib.hid eE; clear eE; have H_eM := Lib.hid eM; clear eM; have H_eC := Lib.hid eC; clear eC; have H_hT := Lib.hid hT; clear hT; have H_ha := Lib.hid ha; clear ha; have H_qa := Lib.hid qa; clear qa
      go_wp2_with fail
      (with_reducible refine (H_qa.out _).mono ?_)
      rintro e w_ ⟨rfl, rfl⟩
      go_upto_region 3 with (fail)
      have gw9 : Below w.heap.size w (putL w1 (w.heap.size + 1) 0 [.int .i64 0, .int .i64 0]) := putL_below (by omega) _ _ _ H_bb1.out
      simp only [putL, Nat.reduceAdd] at gw9
      have H_gw9 := Lib.hid gw9; clear gw9
      have f0 := (H_r1.out 0 _ rfl).free
      have f1 := (H_r1.out 1 _ rfl).free
      go_wp2_with fail
      refine bodyPost_ret (v := .tuple #[.agg #[.int .i64 0, .int .i64 0], .int .i64 1]) (by simp [results, Tryd.results10, go_sem, *]) rfl ⟨by rw [H_eE.out, H_eM.out, H_eC.out], H_gw9.out⟩
    | true =>
      rw [ha] at qa
      have qb := H_qb.out
      cases hb : curB c with
      | false =>
        rw [hb] at qb
        have eE : cvE l m c t = 1 := by rw [cvE, if_neg (by rw [hb]; simp)]
        obtain ⟨eM, eC⟩ := cv_err (by rw [eE]; omega)
        have H_eE := Lib.hid eE; clear eE; have H_eM := Lib.hid eM; clear eM; have H_eC := Lib.hid eC; clear eC; have H_hT := Lib.hid hT; clear hT; have H_ha := Lib.hid ha; clear ha; have H_qa := Lib.hid qa; clear qa; have H_hb := Lib.hid hb; clear hb; have H_qb := Lib.hid qb; clear qb
        go_wp2_with fail
        (with_reducible refine (H_qa.out _).mono ?_)
        rintro e w_ ⟨rfl, rfl⟩
        go_wp2_with fail
        (with_reducible refine (H_qb.out _).mono ?_)
        rintro e w_ ⟨rfl, rfl⟩
        go_upto_region 3 with (fail)
        have gw9 : Below w.heap.size w (putL w1 (w.heap.size + 1) 0 [.int .i64 0, .int .i64 0]) := putL_below (by omega) _ _ _ H_bb1.out
        simp only [putL, Nat.reduceAdd] at gw9
        have H_gw9 := Lib.hid gw9; clear gw9
        have f0 := (H_r1.out 0 _ rfl).free
        have f1 := (H_r1.out 1 _ rfl).free
        go_wp2_with fail
        refine bodyPost_ret (v := .tuple #[.agg #[.int .i64 0, .int .i64 0], .int .i64 1]) (by simp [results, Tryd.results10, go_sem, *]) rfl ⟨by rw [H_eE.out, H_eM.out, H_eC.out], H_gw9.out⟩
      | true =>
        rw [hb] at qb
        have qt := H_qt.out
        cases hd : curB t with
        | false =>
          rw [hd] at qt
          have eE : cvE l m c t = 1 := by rw [cvE, if_neg (by rw [hd]; simp)]
          obtain ⟨eM, eC⟩ := cv_err (by rw [eE]; omega)
          have H_eE := Lib.hid eE; clear eE; have H_eM := Lib.hid eM; clear eM; have H_eC := Lib.hid eC; clear eC; have H_hT := Lib.hid hT; clear hT; have H_ha := Lib.hid ha; clear ha; have H_qa := Lib.hid qa; clear qa; have H_hb := Lib.hid hb; clear hb; have H_qb := Lib.hid qb; clear qb; have H_hd := Lib.hid hd; clear hd; have H_qt := Lib.hid qt; clear qt
          go_wp2_with fail
          (with_reducible refine (H_qa.out _).mono ?_)
          rintro e w_ ⟨rfl, rfl⟩
          go_wp2_with fail
          (with_reducible refine (H_qb.out _).mono ?_)
          rintro e w_ ⟨rfl, rfl⟩
          go_wp2_with fail
          (with_reducible refine (H_qt.out _).mono ?_)
          rintro e w_ ⟨rfl, rfl⟩
          go_upto_region 3 with (fail)
          have gw9 : Below w.heap.size w (putL w1 (w.heap.size + 1) 0 [.int .i64 0, .int .i64 0]) := putL_below (by omega) _ _ _ H_bb1.out
          simp only [putL, Nat.reduceAdd] at gw9
          have H_gw9 := Lib.hid gw9; clear gw9
          have f0 := (H_r1.out 0 _ rfl).free
          have f1 := (H_r1.out 1 _ rfl).free
          go_wp2_with fail
          refine bodyPost_ret (v := .tuple #[.agg #[.int .i64 0, .int .i64 0], .int .i64 1]) (by simp [results, Tryd.results10, go_sem, *]) rfl ⟨by rw [H_eE.out, H_eM.out, H_eC.out], H_gw9.out⟩
        | true =>
          rw [hd] at qt
          have wc : (Lit.int .i64 c).wf = true := WalkArith.wf_i64 H_hc.out
          have wt : (Lit.int .i64 t).wf = true := WalkArith.wf_i64 H_ht.out
          have hok : tabB l = true ∧ amtB m = true ∧ curB c = true ∧ curB t = true := ⟨hT, ha, hb, hd⟩
          have hnd : (l.map keyX).Nodup := by
            have := hT
            simp only [tabB, Bool.and_eq_true, decide_eq_true_eq] at this
            exact this.1.2
          have H_hT := Lib.hid hT; clear hT; have H_ha := Lib.hid ha; clear ha; have H_qa := Lib.hid qa; clear qa; have H_hb := Lib.hid hb; clear hb; have H_qb := Lib.hid qb; clear qb; have H_hd := Lib.hid hd; clear hd; have H_qt := Lib.hid qt; clear qt; have H_wc := Lib.hid wc; clear wc; have H_wt := Lib.hid wt; clear wt; have H_hok := Lib.hid hok; clear hok; have H_hnd := Lib.hid hnd; clear hnd
          go_wp2_with fail
          (with_reducible refine (H_qa.out _).mono ?_)
          rintro e w_ ⟨rfl, rfl⟩
          go_wp2_with fail
          (with_reducible refine (H_qb.out _).mono ?_)
          rintro e w_ ⟨rfl, rfl⟩
          go_wp2_with fail
          (with_reducible refine (H_qt.out _).mono ?_)
          rintro e w_ ⟨rfl, rfl⟩
          go_upto_region 5 with (fail)
          obtain ⟨w2, hw2⟩ : ∃ W, w1.alloc (.cells #[.int .i64 c, .int .i64 t] 57) = W := ⟨_, rfl⟩
          rw [hw2]
          have b2 : Below w1.heap.size w1 w2 := by rw [← hw2]; exact (Below.refl _ _).alloc (Nat.le_refl _) _
          have p2 : Blk w2 w1.heap.size #[.int .i64 c, .int .i64 t] := by rw [← hw2]; exact blk_new rfl
          have s2 := b2.size
          have bb2 := H_bb1.out.trans (b2.mono H_bb1.out.size)
          have k2 := H_k1.out.below b2
          have r2 := H_r1.out.below b2
          have mp2 := H_mp.out.below b2
          clear y0 y1 z0 z1
          have y0 := (k2 0 _ rfl).at
          have y1 := (k2 1 _ rfl).at
          have z0 := (r2 0 _ rfl).at
          have z1 := (r2 1 _ rfl).at
          have p0 := (p2 0 _ rfl).at
          have p1 := (p2 1 _ rfl).at
          have lp := (p2 0 _ rfl).lt
          have H_hw2 := Lib.hid hw2; clear hw2; have H_b2 := Lib.hid b2; clear b2; have H_bb2 := Lib.hid bb2; clear bb2; have H_k2 := Lib.hid k2; clear k2; have H_r2 := Lib.hid r2; clear r2; have H_mp2 := Lib.hid mp2; clear mp2; have H_p2 := Lib.hid p2; clear p2
          by_cases hct : c = t
          · have eqw := fun W => eq_way c t t t H_hc.out H_ht.out H_ht.out H_ht.out (R := true) (by simp [hct]) W
            have eE : cvE l m c t = 0 := by rw [cvE, if_pos H_hok.out, if_pos hct]
            have eM : cvM l m c t = m := by rw [cvM, if_pos eE, if_pos hct]
            have eC : cvC l m c t = c := by rw [cvC, if_pos eE, hct]
            have H_eE := Lib.hid eE; clear eE; have H_eM := Lib.hid eM; clear eM; have H_eC := Lib.hid eC; clear eC; have H_hct := Lib.hid hct; clear hct
            go_upto_region 6 with (fail)
            have gw9 : Below w.heap.size w (putL w2 (w.heap.size + 1) 0 [.int .i64 m, .int .i64 c]) := putL_below (by omega) _ _ _ H_bb2.out
            simp only [putL, Nat.reduceAdd] at gw9
            have H_gw9 := Lib.hid gw9; clear gw9
            have f0 := (H_r2.out 0 _ rfl).free
            have f1 := (H_r2.out 1 _ rfl).free
            go_wp2_with fail
            refine bodyPost_ret (v := .tuple #[.agg #[.int .i64 m, .int .i64 c], .int .i64 0]) (by simp [results, Tryd.results10, go_sem, *]) rfl ⟨by rw [H_eE.out, H_eM.out, H_eC.out], H_gw9.out⟩
          have eqw := fun W => eq_way c t t t H_hc.out H_ht.out H_ht.out H_ht.out (R := false) (by simp [hct]) W
          have hlook : (Instr.lookup 54 (.map (some bm)) (.agg #[.int .i64 c, .int .i64 t]) true).run Tryd.prog w2 = .ok (.tuple #[match fndX l c t with | some x => ratV x | none => .agg #[.int .i64 0, .int .i64 0], .bool (decide ((c, t) ∈ l.map keyX))]) w2 :=
            H_mp2.out.look_ok keyed2 Tryd.underlying54 (zero_rat w2) (key2 c t H_wc.out H_wt.out) (tbl_at H_hfit.out H_hnd.out H_wc.out H_wt.out) (tbl_has H_hfit.out H_wc.out H_wt.out)
          go_upto_region 7 with (fail)
          clear eqw
          cases hf : fndX l c t with
          | none =>
            have hno : decide ((c, t) ∈ l.map keyX) = false := decide_eq_false (fnd_none hf)
            rw [hf, hno] at hlook
            have eE : cvE l m c t = 4 := by rw [cvE, if_pos H_hok.out, if_neg hct, hf]
            obtain ⟨eM, eC⟩ := cv_err (by rw [eE]; omega)
            have H_eE := Lib.hid eE; clear eE; have H_eM := Lib.hid eM; clear eM; have H_eC := Lib.hid eC; clear eC; have H_hct := Lib.hid hct; clear hct; have H_hf := Lib.hid hf; clear hf; have H_hno := Lib.hid hno; clear hno
            go_upto_region 8 with (fail)
            obtain ⟨w3, hw3⟩ : ∃ W, w2.alloc (.cells #[.int .i64 0, .int .i64 0] 40) = W := ⟨_, rfl⟩
            rw [hw3]
            have b3 : Below w2.heap.size w2 w3 := by rw [← hw3]; exact (Below.refl _ _).alloc (Nat.le_refl _) _
            have v3 : Blk w3 w2.heap.size #[.int .i64 0, .int .i64 0] := by rw [← hw3]; exact blk_new rfl
            have s3 := b3.size
            have bb3 := H_bb2.out.trans (b3.mono H_bb2.out.size)
            have k3 := H_k2.out.below b3
            have r3 := H_r2.out.below b3
            clear y0 y1 z0 z1 p0 p1 hlook
            have y0 := (k3 0 _ rfl).at
            have y1 := (k3 1 _ rfl).at
            have z0 := (r3 0 _ rfl).at
            have z1 := (r3 1 _ rfl).at
            have v0 := (v3 0 _ rfl).at
            have v1 := (v3 1 _ rfl).at
            have H_hw3 := Lib.hid hw3; clear hw3; have H_b3 := Lib.hid b3; clear b3; have H_bb3 := Lib.hid bb3; clear bb3; have H_k3 := Lib.hid k3; clear k3; have H_r3 := Lib.hid r3; clear r3; have H_v3 := Lib.hid v3; clear v3
            go_upto_region 9 with (fail)
            have gw9 : Below w.heap.size w (putL w3 (w.heap.size + 1) 0 [.int .i64 0, .int .i64 0]) := putL_below (by omega) _ _ _ H_bb3.out
            simp only [putL, Nat.reduceAdd] at gw9
            have H_gw9 := Lib.hid gw9; clear gw9
            have f0 := (H_r3.out 0 _ rfl).free
            have f1 := (H_r3.out 1 _ rfl).free
            go_wp2_with fail
            refine bodyPost_ret (v := .tuple #[.agg #[.int .i64 0, .int .i64 0], .int .i64 4]) (by simp [results, Tryd.results10, go_sem, *]) rfl ⟨by rw [H_eE.out, H_eM.out, H_eC.out], H_gw9.out⟩
          | some x =>
            have hyes : decide ((c, t) ∈ l.map keyX) = true := decide_eq_true (List.mem_map.2 ⟨x, (fndX_mem hf).1, by rw [keyX, (fndX_mem hf).2.1, (fndX_mem hf).2.2]⟩)
            rw [hf, hyes] at hlook
            unfold ratV at hlook
            have hx := H_hfit.out x (fndX_mem hf).1
            have hxe := tab_mem H_hok.out.1 (fndX_mem hf).1
            have hrt : ratB x.n x.d = true := by
              simp only [excB, Bool.and_eq_true] at hxe
              exact hxe.1.2
            have q2 := fun W => part_any m x.n x.d H_hm.out (wf_i64 hx.n) (wf_i64 hx.d) W
            have qE : ptE m x.n x.d = if amtB (rdE (m * x.n) x.d) = true then 0 else 3 := by rw [ptE, if_pos ⟨hrt, H_ha.out⟩]
            have eE0 : cvE l m c t = ptE m x.n x.d := by rw [cvE, if_pos H_hok.out, if_neg hct, hf, qE]
            have eM0 : cvM l m c t = ptV m x.n x.d := by
              rw [cvM, ptV, eE0]
              by_cases h : ptE m x.n x.d = 0
              · rw [if_pos h, if_pos h, if_neg hct, hf]
              · rw [if_neg h, if_neg h]
            have H_hct := Lib.hid hct; clear hct; have H_hf := Lib.hid hf; clear hf; have H_hyes := Lib.hid hyes; clear hyes; have H_hx := Lib.hid hx; clear hx; have H_hxe := Lib.hid hxe; clear hxe; have H_hrt := Lib.hid hrt; clear hrt
            go_upto_region 8 with (fail)
            obtain ⟨w3, hw3⟩ : ∃ W, w2.alloc (.cells #[.int .i64 x.n, .int .i64 x.d] 40) = W := ⟨_, rfl⟩
            rw [hw3]
            have b3 : Below w2.heap.size w2 w3 := by rw [← hw3]; exact (Below.refl _ _).alloc (Nat.le_refl _) _
            have v3 : Blk w3 w2.heap.size #[.int .i64 x.n, .int .i64 x.d] := by rw [← hw3]; exact blk_new rfl
            have s3 := b3.size
            have bb3 := H_bb2.out.trans (b3.mono H_bb2.out.size)
            have k3 := H_k2.out.below b3
            have r3 := H_r2.out.below b3
            clear y0 y1 z0 z1 p0 p1 hlook
            have y0 := (k3 0 _ rfl).at
            have y1 := (k3 1 _ rfl).at
            have z0 := (r3 0 _ rfl).at
            have z1 := (r3 1 _ rfl).at
            have v0 := (v3 0 _ rfl).at
            have v1 := (v3 1 _ rfl).at
            have H_hw3 := Lib.hid hw3; clear hw3; have H_b3 := Lib.hid b3; clear b3; have H_bb3 := Lib.hid bb3; clear bb3; have H_k3 := Lib.hid k3; clear k3; have H_r3 := Lib.hid r3; clear r3; have H_v3 := Lib.hid v3; clear v3
            cases hA : amtB (rdE (m * x.n) x.d) with
            | false =>
              rw [hA, if_neg (by simp)] at qE
              have qV : ptV m x.n x.d = 0 := by rw [ptV, qE, if_neg (by omega)]
              rw [qE, qV] at q2
              have eE : cvE l m c t = 3 := by rw [eE0, qE]
              obtain ⟨eM, eC⟩ := cv_err (by rw [eE]; omega)
              have H_eE := Lib.hid eE; clear eE; have H_eM := Lib.hid eM; clear eM; have H_eC := Lib.hid eC; clear eC; have H_eE0 := Lib.hid eE0; clear eE0; have H_eM0 := Lib.hid eM0; clear eM0; have H_qE := Lib.hid qE; clear qE; have H_qV := Lib.hid qV; clear qV; have H_q2 := Lib.hid q2; clear q2; have H_hA := Lib.hid hA; clear hA
              go_wp2_with fail
              (with_reducible refine (H_q2.out _).mono ?_)
              rintro e w4 ⟨rfl, b4⟩
              have bb4 := H_bb3.out.trans (b4.mono H_bb3.out.size)
              have r4 := H_r3.out.below b4
              have z0 := (r4 0 _ rfl).at
              have z1 := (r4 1 _ rfl).at
              have lz4 := (r4 0 _ rfl).lt
              clear y0 y1 v0 v1
              have H_b4 := Lib.hid b4; clear b4; have H_bb4 := Lib.hid bb4; clear bb4; have H_r4 := Lib.hid r4; clear r4
              go_upto_region 12 with (fail)
              have gw9 : Below w.heap.size w (putL w4 (w.heap.size + 1) 0 [.int .i64 0, .int .i64 0]) := putL_below (by omega) _ _ _ H_bb4.out
              simp only [putL, Nat.reduceAdd] at gw9
              have H_gw9 := Lib.hid gw9; clear gw9
              have f0 := (H_r4.out 0 _ rfl).free
              have f1 := (H_r4.out 1 _ rfl).free
              go_wp2_with fail
              refine bodyPost_ret (v := .tuple #[.agg #[.int .i64 0, .int .i64 0], .int .i64 3]) (by simp [results, Tryd.results10, go_sem, *]) rfl ⟨by rw [H_eE.out, H_eM.out, H_eC.out], H_gw9.out⟩
            | true =>
              rw [hA, if_pos rfl] at qE
              have qV : ptV m x.n x.d = rdE (m * x.n) x.d := by rw [ptV, qE, if_pos rfl]
              rw [qE, qV] at q2
              have eE : cvE l m c t = 0 := by rw [eE0, qE]
              have eM : cvM l m c t = rdE (m * x.n) x.d := by rw [eM0, qV]
              have eC : cvC l m c t = t := by rw [cvC, if_pos eE]
              have q3 := fun W => misAmount_any (rdE (m * x.n) x.d) W
              rw [hA] at q3
              generalize rdE (m * x.n) x.d = V at *
              have H_eE := Lib.hid eE; clear eE; have H_eM := Lib.hid eM; clear eM; have H_eC := Lib.hid eC; clear eC; have H_eE0 := Lib.hid eE0; clear eE0; have H_eM0 := Lib.hid eM0; clear eM0; have H_qE := Lib.hid qE; clear qE; have H_qV := Lib.hid qV; clear qV; have H_q2 := Lib.hid q2; clear q2; have H_q3 := Lib.hid q3; clear q3; have H_hA := Lib.hid hA; clear hA
              go_wp2_with fail
              (with_reducible refine (H_q2.out _).mono ?_)
              rintro e w4 ⟨rfl, b4⟩
              have bb4 := H_bb3.out.trans (b4.mono H_bb3.out.size)
              have r4 := H_r3.out.below b4
              have z0 := (r4 0 _ rfl).at
              have z1 := (r4 1 _ rfl).at
              have lz4 := (r4 0 _ rfl).lt
              clear y0 y1 v0 v1
              have H_b4 := Lib.hid b4; clear b4; have H_bb4 := Lib.hid bb4; clear bb4; have H_r4 := Lib.hid r4; clear r4
              go_wp2_with fail
              (with_reducible refine (H_q3.out _).mono ?_)
              rintro e w_ ⟨rfl, rfl⟩
              go_upto_region 13 with (fail)
              have gw9 : Below w.heap.size w (putL w4 (w.heap.size + 1) 0 [.int .i64 V, .int .i64 t]) := putL_below (by omega) _ _ _ H_bb4.out
              simp only [putL, Nat.reduceAdd] at gw9
              have H_gw9 := Lib.hid gw9; clear gw9
              have f0 := (H_r4.out 0 _ rfl).free
              have f1 := (H_r4.out 1 _ rfl).free
              go_wp2_with fail
              refine bodyPost_ret (v := .tuple #[.agg #[.int .i64 V, .int .i64 t], .int .i64 0]) (by simp [results, Tryd.results10, go_sem, *]) rfl ⟨by rw [H_eE.out, H_eM.out, H_eC.out], H_gw9.out⟩
end Go.Proofs.YtaloadadecoogaaDoor

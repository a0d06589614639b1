/- Contracts of package money: Text, its walk. -/
import Derived.Test.YtaloadadecoogaaDoorMnK
namespace Go.Proofs.YtaloadadecoogaaDoor
set_option linter.unusedSimpArgs false
set_option linter.unusedVariables false
set_option maxRecDepth 100000
open Go.RowKit Go.Maps

theorem run_str_at (w : World) (A : Option Addr) (l : List Int) (c n : Nat) (hn : l.length = n) (h : IntsAt w A .u8 l) (s : ByteArray) (hs : strOfNums l = s) :
    (convert 63 9 (.slice A n c)).run Tryd.prog w = .ok (.string s) w := by
  subst hn hs
  exact run_str w A l c h
theorem dec_len (n : Int) (h : -9223372036854775808 ≤ n ∧ n ≤ 9223372036854775807) : (decB n).length ≤ 21 := by
  have := Lib.itoa_length_le n h.1 h.2
  rw [decB, List.length_map]; exact this
set_option maxHeartbeats 8000000 in
theorem mtext_any (n : Int) (hn : -9223372036854775808 ≤ n ∧ n ≤ 9223372036854775807) (w : World) (ht : Tab w) :
    Calls Tryd.prog 17 #[.int .i64 n] w fun e w' => e = .returned (.tuple #[.string (tS n), .int .i64 (tE n)]) ∧ Below w.heap.size w w' := by
  obtain ⟨i0, hi, hz0, hz1, hz2⟩ := info_parts infoMU
  have q := fun W => misAmount_any n W
  cases ha : amtB n with
  | false =>
    have eS : tS n = ⟨#[]⟩ := by rw [tS, ha]; rfl
    have eE : tE n = 1 := by rw [tE, ha]; rfl
    rw [ha] at q
    have H_q := Lib.hid q; clear q; have H_ha := Lib.hid ha; clear ha; have H_eS := Lib.hid eS; clear eS; have H_eE := Lib.hid eE; clear eE; have H_ht := Lib.hid ht; clear ht; have H_hi := Lib.hid hi; clear hi; have H_hz0 := Lib.hid hz0; clear hz0; have H_hz1 := Lib.hid hz1; clear hz1; have H_hz2 := Lib.hid hz2; clear hz2
    go_enter Tryd.func17, Tryd.ntmps17
    go_wp2_with fail
    (with_reducible refine (H_q.out _).mono ?_)
    rintro e w_ ⟨rfl, hw⟩; subst hw
    go_wp2_with fail
    go_ret2
    exact ⟨by rw [H_eS.out, H_eE.out]; rfl, Below.refl _ _⟩
  | true =>
    have eS : tS n = mS n := by rw [tS, ha]; rfl
    have eE : tE n = 0 := by rw [tE, ha]; rfl
    have hca := amtB_iff.1 ha
    rw [ha] at q
    have nt := nums_text n
    by_cases hneg : n < 0
    · obtain ⟨M, hM⟩ : ∃ M : Nat, n.natAbs = M := ⟨_, rfl⟩
      have nM : n = -(M : Int) := by omega
      have nt := nt [45] (by rw [if_pos hneg])
      rw [hM] at nt
      have mb : 0 ≤ (M : Int) ∧ (M : Int) ≤ 1000000000 := by omega
      have t1 : (M : Int).tdiv 100 = ((M / 100 : Nat) : Int) := by rw [Int.tdiv_eq_ediv_of_nonneg mb.1]; omega
      have t2 : ((M : Int).tdiv 10).tmod 10 = ((M / 10 % 10 : Nat) : Int) := by rw [Int.tdiv_eq_ediv_of_nonneg mb.1, Int.tmod_eq_emod_of_nonneg (by omega)]; omega
      have t3 : (M : Int).tmod 10 = ((M % 10 : Nat) : Int) := by rw [Int.tmod_eq_emod_of_nonneg mb.1]; omega
      have t4 : (M : Int).tdiv 10 ≤ 1000000000 ∧ 0 ≤ (M : Int).tdiv 10 := by rw [Int.tdiv_eq_ediv_of_nonneg mb.1]; omega
      have m1 : (0 : Int) ≤ ((M / 100 : Nat) : Int) ∧ ((M / 100 : Nat) : Int) ≤ 10000000 := by omega
      have m2 : (0 : Int) ≤ ((M / 10 % 10 : Nat) : Int) ∧ ((M / 10 % 10 : Nat) : Int) ≤ 9 := by omega
      have m3 : (0 : Int) ≤ ((M % 10 : Nat) : Int) ∧ ((M % 10 : Nat) : Int) ≤ 9 := by omega
      generalize ((M / 100 : Nat) : Int) = a1 at *
      generalize ((M / 10 % 10 : Nat) : Int) = a2 at *
      generalize ((M % 10 : Nat) : Int) = a3 at *
      generalize (M : Int) = m at *
      clear hM
      obtain ⟨b1, hb1⟩ : ∃ b, m.tdiv 10 = b := ⟨_, rfl⟩
      rw [hb1] at t2 t4
      have k1 : IntKind.i64.wrap (-n) = m := by rw [IntWalk.i64_in _ (by omega)]; omega
      have k2 : IntKind.i64.wrap a1 = a1 := IntWalk.i64_in _ (by omega)
      have k3 : IntKind.i64.wrap a2 = a2 := IntWalk.i64_in _ (by omega)
      have k4 : IntKind.i64.wrap a3 = a3 := IntWalk.i64_in _ (by omega)
      have k5 : IntKind.i64.wrap b1 = b1 := IntWalk.i64_in _ (by omega)
      have dl := dec_len a1 (by omega)
      obtain ⟨D, hD⟩ : ∃ D, (decB a1).length = D := ⟨_, rfl⟩
      rw [hD] at dl
      have i1 : decide (n < 0) = true := decide_eq_true hneg

      have H_q := Lib.hid q; clear q; have H_ha := Lib.hid ha; clear ha; have H_eS := Lib.hid eS; clear eS; have H_eE := Lib.hid eE; clear eE; have H_ht := Lib.hid ht; clear ht; have H_hi := Lib.hid hi; clear hi; have H_hz0 := Lib.hid hz0; clear hz0; have H_hz1 := Lib.hid hz1; clear hz1; have H_hz2 := Lib.hid hz2; clear hz2; have H_hca := Lib.hid hca; clear hca; have H_hD := Lib.hid hD; clear hD; have H_nt := Lib.hid nt; clear nt; have H_nM := Lib.hid nM; clear nM

      go_enter Tryd.func17, Tryd.ntmps17
      go_wp2_with fail
      (with_reducible refine (H_q.out _).mono ?_)
      rintro e w_ ⟨rfl, hw⟩; subst hw
      go_upto_region 6 with (fail)
      generalize hV : Value.slice none 0 0 = V
      go_wp2_with (at_builtin; refine wp_app_at _ rfl (.tmp 12) (.tmp 13) _ rfl w.heap.size 5 i0 _ 1 Tryd.underlying63 H_hi.out H_hz0.out H_hz1.out H_hz2.out rfl .u8 none 0 0 [] rfl hV.symm ((OwnInts.nil _ _ _ _).alloc _) (some ⟨w.heap.size, 0, none⟩) 1 1 [45] rfl rfl (ints_new1 _ _ _ _ _ rfl) (by omega) (by omega) (by simp) ?_)
      intro A1 c1 w1 own1 g1 _
      have bb1 : Below w.heap.size w w1 := ((Below.refl _ _).alloc (Nat.le_refl _) _).grown g1 (by simp) (fun g hg => by cases hg)
      have H_own1 := Lib.hid own1; clear own1; have H_g1 := Lib.hid g1; clear g1; have H_bb1 := Lib.hid bb1; clear bb1
      go_wp2_with fail
      refine (appint_any w.heap.size 1 a1 A1 c1 [45] w w1 (by omega) rfl (by omega) H_own1.out rfl H_bb1.out H_ht.out).mono ?_
      rintro e w2 ⟨A2, c2, rfl, own2, b2⟩
      have lnm : ([45] ++ decB a1).length = 1 + D := by simp [H_hD.out]; try omega
      rw [H_hD.out]
      have bb2 := H_bb1.out.trans b2
      have sb2 := bb2.size
      have H_own2 := Lib.hid own2; clear own2; have H_b2 := Lib.hid b2; clear b2; have H_bb2 := Lib.hid bb2; clear bb2
      go_wp2_with (at_builtin; refine wp_app_at _ rfl (.tmp 21) (.tmp 31) _ rfl w.heap.size 5 i0 _ 1 Tryd.underlying63 H_hi.out H_hz0.out H_hz1.out H_hz2.out rfl .u8 A2 c2 _ ([45] ++ decB a1) lnm rfl (H_own2.out.alloc _) (some ⟨w2.heap.size, 0, none⟩) 3 3 [46, 48 + a2, 48 + a3] rfl rfl (ints_new3 _ _ _ _ _ _ _ rfl) (by omega) (by omega) (by simp; omega) ?_)
      intro B2 d2 w3 own3 g3 _
      have bb3 : Below w.heap.size w w3 := (H_bb2.out.alloc H_bb2.out.size _).grown g3 (by simp; omega) (fun g hg => (H_own2.out.lt g hg).1)
      have hrs := run_str_at w3 B2 _ d2 (1 + D + 3) (by simp [H_hD.out]; try omega) own3.ints _ H_nt.out
      have H_own3 := Lib.hid own3; clear own3; have H_g3 := Lib.hid g3; clear g3; have H_bb3 := Lib.hid bb3; clear bb3; have H_lnm := Lib.hid lnm; clear lnm
      go_wp2_with fail
      go_ret2
      exact ⟨by rw [H_eS.out, H_eE.out]; rfl, H_bb3.out⟩
    · obtain ⟨M, hM⟩ : ∃ M : Nat, n.natAbs = M := ⟨_, rfl⟩
      have nM : n = (M : Int) := by omega
      have nt := nt ([] : List Int) (by rw [if_neg hneg])
      rw [hM] at nt
      have mb : 0 ≤ (M : Int) ∧ (M : Int) ≤ 1000000000 := by omega
      have t1 : (M : Int).tdiv 100 = ((M / 100 : Nat) : Int) := by rw [Int.tdiv_eq_ediv_of_nonneg mb.1]; omega
      have t2 : ((M : Int).tdiv 10).tmod 10 = ((M / 10 % 10 : Nat) : Int) := by rw [Int.tdiv_eq_ediv_of_nonneg mb.1, Int.tmod_eq_emod_of_nonneg (by omega)]; omega
      have t3 : (M : Int).tmod 10 = ((M % 10 : Nat) : Int) := by rw [Int.tmod_eq_emod_of_nonneg mb.1]; omega
      have t4 : (M : Int).tdiv 10 ≤ 1000000000 ∧ 0 ≤ (M : Int).tdiv 10 := by rw [Int.tdiv_eq_ediv_of_nonneg mb.1]; omega
      have m1 : (0 : Int) ≤ ((M / 100 : Nat) : Int) ∧ ((M / 100 : Nat) : Int) ≤ 10000000 := by omega
      have m2 : (0 : Int) ≤ ((M / 10 % 10 : Nat) : Int) ∧ ((M / 10 % 10 : Nat) : Int) ≤ 9 := by omega
      have m3 : (0 : Int) ≤ ((M % 10 : Nat) : Int) ∧ ((M % 10 : Nat) : Int) ≤ 9 := by omega
      generalize ((M / 100 : Nat) : Int) = a1 at *
      generalize ((M / 10 % 10 : Nat) : Int) = a2 at *
      generalize ((M % 10 : Nat) : Int) = a3 at *
      generalize (M : Int) = m at *
      clear hM
      obtain ⟨b1, hb1⟩ : ∃ b, m.tdiv 10 = b := ⟨_, rfl⟩
      rw [hb1] at t2 t4
      have k2 : IntKind.i64.wrap a1 = a1 := IntWalk.i64_in _ (by omega)
      have k3 : IntKind.i64.wrap a2 = a2 := IntWalk.i64_in _ (by omega)
      have k4 : IntKind.i64.wrap a3 = a3 := IntWalk.i64_in _ (by omega)
      have k5 : IntKind.i64.wrap b1 = b1 := IntWalk.i64_in _ (by omega)
      have dl := dec_len a1 (by omega)
      obtain ⟨D, hD⟩ : ∃ D, (decB a1).length = D := ⟨_, rfl⟩
      rw [hD] at dl
      have i1 : decide (n < 0) = false := decide_eq_false hneg
      subst nM
      have H_q := Lib.hid q; clear q; have H_ha := Lib.hid ha; clear ha; have H_eS := Lib.hid eS; clear eS; have H_eE := Lib.hid eE; clear eE; have H_ht := Lib.hid ht; clear ht; have H_hi := Lib.hid hi; clear hi; have H_hz0 := Lib.hid hz0; clear hz0; have H_hz1 := Lib.hid hz1; clear hz1; have H_hz2 := Lib.hid hz2; clear hz2; have H_hca := Lib.hid hca; clear hca; have H_hD := Lib.hid hD; clear hD; have H_nt := Lib.hid nt; clear nt

      go_enter Tryd.func17, Tryd.ntmps17
      go_wp2_with fail
      (with_reducible refine (H_q.out _).mono ?_)
      rintro e w_ ⟨rfl, hw⟩; subst hw
      go_wp2_with fail
      have bb1 := Below.refl w.heap.size w
      have H_bb1 := Lib.hid bb1; clear bb1
      refine (appint_any w.heap.size 0 a1 none 0 [] w w (by omega) rfl (by omega) (OwnInts.nil _ _ _ _) rfl (Below.refl _ _) H_ht.out).mono ?_
      rintro e w2 ⟨A2, c2, rfl, own2, b2⟩
      have lnm : (([] : List Int) ++ decB a1).length = D := by simp [H_hD.out]; try omega
      rw [H_hD.out]
      have bb2 := H_bb1.out.trans b2
      have sb2 := bb2.size
      have H_own2 := Lib.hid own2; clear own2; have H_b2 := Lib.hid b2; clear b2; have H_bb2 := Lib.hid bb2; clear bb2
      go_wp2_with (at_builtin; refine wp_app_at _ rfl (.tmp 21) (.tmp 31) _ rfl w.heap.size 5 i0 _ 1 Tryd.underlying63 H_hi.out H_hz0.out H_hz1.out H_hz2.out rfl .u8 A2 c2 _ (([] : List Int) ++ decB a1) lnm rfl (H_own2.out.alloc _) (some ⟨w2.heap.size, 0, none⟩) 3 3 [46, 48 + a2, 48 + a3] rfl rfl (ints_new3 _ _ _ _ _ _ _ rfl) (by omega) (by omega) (by simp; omega) ?_)
      intro B2 d2 w3 own3 g3 _
      have bb3 : Below w.heap.size w w3 := (H_bb2.out.alloc H_bb2.out.size _).grown g3 (by simp; omega) (fun g hg => (H_own2.out.lt g hg).1)
      have hrs := run_str_at w3 B2 _ d2 (D + 3) (by simp [H_hD.out]; try omega) own3.ints _ H_nt.out
      have H_own3 := Lib.hid own3; clear own3; have H_g3 := Lib.hid g3; clear g3; have H_bb3 := Lib.hid bb3; clear bb3; have H_lnm := Lib.hid lnm; clear lnm
      go_wp2_with fail
      go_ret2
      exact ⟨by rw [H_eS.out, H_eE.out]; rfl, H_bb3.out⟩
end Go.Proofs.YtaloadadecoogaaDoor

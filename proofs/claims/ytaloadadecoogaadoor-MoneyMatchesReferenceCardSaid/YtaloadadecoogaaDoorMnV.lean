/- Contracts of package innkeeperref06: Text, Parse. -/
import Derived.Test.YtaloadadecoogaaDoorMnU
import Derived.Test.YtaloadadecoogaaDoorMnM
import Derived.Test.YtaloadadecoogaaDoorDigR
namespace Go.Proofs.YtaloadadecoogaaDoor
set_option linter.unusedSimpArgs false
set_option linter.unusedVariables false
set_option maxRecDepth 100000
open Go.RowKit Go.Maps

theorem dec_small {d : Nat} (h : d < 10) : Lib.itoa (d : Int) = [UInt8.ofNat (48 + d)] := by
  rw [Lib.itoa, if_neg (by omega), Int.toNat_natCast, Lib.decDigits, dif_pos h]
theorem app_data (a b : ByteArray) : (a ++ b).data.toList = a.data.toList ++ b.data.toList := by simp
theorem text_joined (n : Int) (P : ByteArray) (hP : P.data.toList = if n < 0 then [45] else []) :
    P ++ txt ((n.natAbs / 100 : Nat) : Int) ++ ⟨#[46]⟩ ++ txt ((n.natAbs / 10 % 10 : Nat) : Int) ++ txt ((n.natAbs % 10 : Nat) : Int) = mS n := by
  apply ByteArray.ext
  apply Array.toList_inj.1
  have e1 : Lib.itoa ((n.natAbs / 100 : Nat) : Int) = Lib.decDigits (n.natAbs / 100) := by rw [Lib.itoa, if_neg (by omega), Int.toNat_natCast]
  have e2 := dec_small (d := n.natAbs / 10 % 10) (by omega)
  have e3 := dec_small (d := n.natAbs % 10) (by omega)
  rw [app_data, app_data, app_data, app_data, hP, txt, txt, txt, e1, e2, e3, mS, mT]
  split <;> simp
set_option maxHeartbeats 8000000 in
theorem rtext_any (n : Int) (hn : -9223372036854775808 ≤ n ∧ n ≤ 9223372036854775807) (w : World) :
    Calls Tryd.prog 18 #[.int .i64 n] w fun e w' => e = .returned (.tuple #[.string (tS n), .int .i64 (tE n)]) ∧ Below w.heap.size w w' := by
  have q := fun W => ramount_any n W
  have bb0 := Below.refl w.heap.size w
  cases ha : amtB n with
  | false =>
    have eS : tS n = ⟨#[]⟩ := by rw [tS, ha]; rfl
    have eE : tE n = 1 := by rw [tE, ha]; rfl
    rw [ha] at q
    have H_q := Lib.hid q; clear q; have H_ha := Lib.hid ha; clear ha; have H_eS := Lib.hid eS; clear eS; have H_eE := Lib.hid eE; clear eE; have H_bb0 := Lib.hid bb0; clear bb0
    go_enter Tryd.func18, Tryd.ntmps18
    go_wp2_with fail
    (with_reducible refine (H_q.out _).mono ?_)
    rintro e w_ ⟨rfl, hw_⟩
    subst hw_
    go_wp2_with fail
    go_ret2
    exact ⟨by rw [H_eS.out, H_eE.out]; rfl, Below.refl _ _⟩
  | true =>
    have eS : tS n = mS n := by rw [tS, ha]; rfl
    have eE : tE n = 0 := by rw [tE, ha]; rfl
    have hca := amtB_iff.1 ha
    rw [ha] at q
    have nt := text_joined n
    by_cases hneg : n < 0
    · have nt := nt ⟨#[45]⟩ (by rw [if_pos hneg])
      obtain ⟨M, hM⟩ : ∃ M : Nat, n.natAbs = M := ⟨_, rfl⟩
      have nM : n = -(M : Int) := by omega
      rw [hM] at nt
      have mb : 0 ≤ (M : Int) ∧ (M : Int) ≤ 1000000000 := by omega
      have t1 : (M : Int).tdiv 100 = ((M / 100 : Nat) : Int) := by rw [Int.tdiv_eq_ediv_of_nonneg mb.1]; omega
      have t2 : ((M : Int).tmod 100).tdiv 10 = ((M / 10 % 10 : Nat) : Int) := by rw [Int.tmod_eq_emod_of_nonneg mb.1, Int.tdiv_eq_ediv_of_nonneg (by omega)]; omega
      have t3 : (M : Int).tmod 10 = ((M % 10 : Nat) : Int) := by rw [Int.tmod_eq_emod_of_nonneg mb.1]; omega
      have t4 : (M : Int).tmod 100 ≤ 99 ∧ 0 ≤ (M : Int).tmod 100 := by rw [Int.tmod_eq_emod_of_nonneg mb.1]; omega
      have m1 : (0 : Int) ≤ ((M / 100 : Nat) : Int) ∧ ((M / 100 : Nat) : Int) ≤ 10000000 := by omega
      have m2 : (0 : Int) ≤ ((M / 10 % 10 : Nat) : Int) ∧ ((M / 10 % 10 : Nat) : Int) ≤ 9 := by omega
      have m3 : (0 : Int) ≤ ((M % 10 : Nat) : Int) ∧ ((M % 10 : Nat) : Int) ≤ 9 := by omega
      generalize ((M / 100 : Nat) : Int) = a1 at *
      generalize ((M / 10 % 10 : Nat) : Int) = a2 at *
      generalize ((M % 10 : Nat) : Int) = a3 at *
      generalize (M : Int) = m at *
      clear hM
      obtain ⟨b1, hb1⟩ : ∃ b, m.tmod 100 = b := ⟨_, rfl⟩
      rw [hb1] at t2 t4
      have k1 : IntKind.i64.wrap (-n) = m := by rw [IntWalk.i64_in _ (by omega)]; omega
      have k2 : IntKind.i64.wrap a1 = a1 := IntWalk.i64_in _ (by omega)
      have k3 : IntKind.i64.wrap a2 = a2 := IntWalk.i64_in _ (by omega)
      have k4 : IntKind.i64.wrap a3 = a3 := IntWalk.i64_in _ (by omega)
      have k5 : IntKind.i64.wrap b1 = b1 := IntWalk.i64_in _ (by omega)
      have i1 : decide (n < 0) = true := decide_eq_true hneg
      have qd1 := fun W => decimal_any a1 W (by omega)
      have qd2 := fun W => decimal_any a2 W (by omega)
      have qd3 := fun W => decimal_any a3 W (by omega)
      have z1 : (txt a1).size ≤ 30 := by rw [txt_size]; have := dec_len a1 (by omega); omega
      have z2 : (txt a2).size ≤ 30 := by rw [txt_size]; have := dec_len a2 (by omega); omega
      have z3 : (txt a3).size ≤ 30 := by rw [txt_size]; have := dec_len a3 (by omega); omega
      generalize txt a1 = T1 at *
      generalize txt a2 = T2 at *
      generalize txt a3 = T3 at *
      have H_q := Lib.hid q; clear q; have H_ha := Lib.hid ha; clear ha; have H_eS := Lib.hid eS; clear eS; have H_eE := Lib.hid eE; clear eE; have H_hca := Lib.hid hca; clear hca; have H_nt := Lib.hid nt; clear nt; have H_bb0 := Lib.hid bb0; clear bb0; have H_qd1 := Lib.hid qd1; clear qd1; have H_qd2 := Lib.hid qd2; clear qd2; have H_qd3 := Lib.hid qd3; clear qd3; have H_nM := Lib.hid nM; clear nM
      go_enter Tryd.func18, Tryd.ntmps18
      go_wp2_with fail
      (with_reducible refine (H_q.out _).mono ?_)
      rintro e w0 ⟨rfl, hw_⟩
      subst hw_
      go_wp2_with fail
      (with_reducible refine (H_qd1.out _).mono ?_)
      rintro e w1 ⟨rfl, b1⟩
      go_wp2_with fail
      (with_reducible refine (H_qd2.out _).mono ?_)
      rintro e w2 ⟨rfl, b2⟩
      have b2 := b1.trans (b2.mono b1.size)
      go_wp2_with fail
      (with_reducible refine (H_qd3.out _).mono ?_)
      rintro e w3 ⟨rfl, b3⟩
      have b3 := b2.trans (b3.mono b2.size)
      go_wp2_with fail
      go_ret2
      exact ⟨by rw [H_eS.out, H_eE.out, ← H_nt.out]; rfl, b3⟩
    · have nt := nt ⟨#[]⟩ (by rw [if_neg hneg])
      obtain ⟨M, hM⟩ : ∃ M : Nat, n.natAbs = M := ⟨_, rfl⟩
      have nM : n = (M : Int) := by omega
      rw [hM] at nt
      have mb : 0 ≤ (M : Int) ∧ (M : Int) ≤ 1000000000 := by omega
      have t1 : (M : Int).tdiv 100 = ((M / 100 : Nat) : Int) := by rw [Int.tdiv_eq_ediv_of_nonneg mb.1]; omega
      have t2 : ((M : Int).tmod 100).tdiv 10 = ((M / 10 % 10 : Nat) : Int) := by rw [Int.tmod_eq_emod_of_nonneg mb.1, Int.tdiv_eq_ediv_of_nonneg (by omega)]; omega
      have t3 : (M : Int).tmod 10 = ((M % 10 : Nat) : Int) := by rw [Int.tmod_eq_emod_of_nonneg mb.1]; omega
      have t4 : (M : Int).tmod 100 ≤ 99 ∧ 0 ≤ (M : Int).tmod 100 := by rw [Int.tmod_eq_emod_of_nonneg mb.1]; omega
      have m1 : (0 : Int) ≤ ((M / 100 : Nat) : Int) ∧ ((M / 100 : Nat) : Int) ≤ 10000000 := by omega
      have m2 : (0 : Int) ≤ ((M / 10 % 10 : Nat) : Int) ∧ ((M / 10 % 10 : Nat) : Int) ≤ 9 := by omega
      have m3 : (0 : Int) ≤ ((M % 10 : Nat) : Int) ∧ ((M % 10 : Nat) : Int) ≤ 9 := by omega
      generalize ((M / 100 : Nat) : Int) = a1 at *
      generalize ((M / 10 % 10 : Nat) : Int) = a2 at *
      generalize ((M % 10 : Nat) : Int) = a3 at *
      generalize (M : Int) = m at *
      clear hM
      obtain ⟨b1, hb1⟩ : ∃ b, m.tmod 100 = b := ⟨_, rfl⟩
      rw [hb1] at t2 t4
      have k2 : IntKind.i64.wrap a1 = a1 := IntWalk.i64_in _ (by omega)
      have k3 : IntKind.i64.wrap a2 = a2 := IntWalk.i64_in _ (by omega)
      have k4 : IntKind.i64.wrap a3 = a3 := IntWalk.i64_in _ (by omega)
      have k5 : IntKind.i64.wrap b1 = b1 := IntWalk.i64_in _ (by omega)
      have i1 : decide (n < 0) = false := decide_eq_false hneg
      subst nM
      have qd1 := fun W => decimal_any a1 W (by omega)
      have qd2 := fun W => decimal_any a2 W (by omega)
      have qd3 := fun W => decimal_any a3 W (by omega)
      have z1 : (txt a1).size ≤ 30 := by rw [txt_size]; have := dec_len a1 (by omega); omega
      have z2 : (txt a2).size ≤ 30 := by rw [txt_size]; have := dec_len a2 (by omega); omega
      have z3 : (txt a3).size ≤ 30 := by rw [txt_size]; have := dec_len a3 (by omega); omega
      generalize txt a1 = T1 at *
      generalize txt a2 = T2 at *
      generalize txt a3 = T3 at *
      have H_q := Lib.hid q; clear q; have H_ha := Lib.hid ha; clear ha; have H_eS := Lib.hid eS; clear eS; have H_eE := Lib.hid eE; clear eE; have H_hca := Lib.hid hca; clear hca; have H_nt := Lib.hid nt; clear nt; have H_bb0 := Lib.hid bb0; clear bb0; have H_qd1 := Lib.hid qd1; clear qd1; have H_qd2 := Lib.hid qd2; clear qd2; have H_qd3 := Lib.hid qd3; clear qd3
      go_enter Tryd.func18, Tryd.ntmps18
      go_wp2_with fail
      (with_reducible refine (H_q.out _).mono ?_)
      rintro e w0 ⟨rfl, hw_⟩
      subst hw_
      go_wp2_with fail
      (with_reducible refine (H_qd1.out _).mono ?_)
      rintro e w1 ⟨rfl, b1⟩
      go_wp2_with fail
      (with_reducible refine (H_qd2.out _).mono ?_)
      rintro e w2 ⟨rfl, b2⟩
      have b2 := b1.trans (b2.mono b1.size)
      go_wp2_with fail
      (with_reducible refine (H_qd3.out _).mono ?_)
      rintro e w3 ⟨rfl, b3⟩
      have b3 := b2.trans (b3.mono b2.size)
      go_wp2_with fail
      go_ret2
      exact ⟨by rw [H_eS.out, H_eE.out, ← H_nt.out]; rfl, b3⟩
theorem dg_byte (s : ByteArray) (p : Nat) (acc : Int) (h : p < s.size) : dgL (s.data.toList.drop p) acc = dgL (s.data.toList.drop (p + 1)) (dgR acc (((s[p]'h).toNat : Nat) : Int)) := by
  rw [drop_byte s p h, ← dgB_rune]
  have g := get_at s p h
  simp only [Nat.add_zero] at g
  rw [g]; rfl
set_option maxRecDepth 100000 in
set_option maxHeartbeats 8000000 in
theorem rparse_any (s : ByteArray) (hs : s.size ≤ 1000000) (w : World) :
    Calls Tryd.prog 20 #[.string s] w fun e w' => e = .returned (.tuple #[.int .i64 (psR s), .int .i64 (psE s)]) ∧ Below w.heap.size w w' := by
  go_enter Tryd.func20, Tryd.ntmps20
  go_wp2_with fail
  go_loopw [4, 5] (fun n i wr => ∃ (p : Nat) (acc : Int), p ≤ s.size ∧ i = .int .i64 p ∧ n = .int .i64 acc ∧ (0 ≤ acc ∧ acc ≤ 10000000009) ∧ dgL (s.data.toList.drop p) acc = dgL s.data.toList 0 ∧ w = wr) (fun _ i _ => s.size - (intOf i).toNat)
  case atStart => exact ⟨0, 0, by omega, rfl, rfl, by omega, rfl, rfl⟩
  case round =>
    obtain ⟨p, acc, hp0, rfl, rfl, hac, hdg, hw_⟩ := hrel
    subst hw_
    by_cases hp : p < s.size
    · have g1 : (p : Int) < (s.size : Int) := by omega
      have g0 : (0 : Int) ≤ (p : Int) := by omega
      have hp9 : (p : Int) < 1000000 := by omega
      have stp := dg_byte s p acc hp
      rw [hdg] at stp
      have hb := (s[p]'hp).toNat_lt
      generalize hB : (s[p]'hp).toNat = B at *
      have hr : (0 : Int) ≤ (B : Int) ∧ (B : Int) ≤ 255 := by omega
      have hrx : dgR acc (B : Int) = if 48 ≤ (B : Int) ∧ (B : Int) ≤ 57 ∧ acc ≤ 1000000000 then 10 * acc + ((B : Int) - 48) else acc := rfl
      clear hb
      by_cases h1 : 48 ≤ (B : Int)
      · have i1 : decide (48 ≤ (B : Int)) = true := decide_eq_true h1
        by_cases h2 : (B : Int) ≤ 57
        · have i2 : decide ((B : Int) ≤ 57) = true := decide_eq_true h2
          by_cases h3 : acc ≤ 1000000000
          · have i3 : decide (acc ≤ 1000000000) = true := decide_eq_true h3
            rw [if_pos ⟨h1, h2, h3⟩] at hrx
            have g := stp
            rw [hrx] at g
            clear stp
            have k1 : IntKind.i64.wrap (10 * acc) = 10 * acc := IntWalk.i64_in _ (by omega)
            have k2 : IntKind.i64.wrap (10 * acc + ((B : Int) - 48)) = 10 * acc + ((B : Int) - 48) := IntWalk.i64_in _ (by omega)

            skip
            have H_hp0 := Lib.hid hp0; clear hp0; have H_hdg := Lib.hid hdg; clear hdg; have H_g := Lib.hid g; clear g; have H_hrx := Lib.hid hrx; clear hrx
            go_wp2_with fail
            go_roundw
            case rel => exact ⟨p + 1, _, by omega, by go_num, by rfl, by omega, H_g.out.symm, (by first | trivial | rfl)⟩
            case measure => simp [intOf]; omega
          · have i3 : decide (acc ≤ 1000000000) = false := decide_eq_false h3
            rw [if_neg (fun h => h3 h.2.2)] at hrx
            have g := stp
            rw [hrx] at g
            clear stp
            have H_hp0 := Lib.hid hp0; clear hp0; have H_hdg := Lib.hid hdg; clear hdg; have H_g := Lib.hid g; clear g; have H_hrx := Lib.hid hrx; clear hrx
            go_wp2_with fail
            go_roundw
            case rel => exact ⟨p + 1, _, by omega, by go_num, by rfl, by omega, H_g.out.symm, (by first | trivial | rfl)⟩
            case measure => simp [intOf]; omega
        · have i2 : decide ((B : Int) ≤ 57) = false := decide_eq_false h2
          rw [if_neg (fun h => h2 h.2.1)] at hrx
          have g := stp
          rw [hrx] at g
          clear stp
          have H_hp0 := Lib.hid hp0; clear hp0; have H_hdg := Lib.hid hdg; clear hdg; have H_g := Lib.hid g; clear g; have H_hrx := Lib.hid hrx; clear hrx
          go_wp2_with fail
          go_roundw
          case rel => exact ⟨p + 1, _, by omega, by go_num, by rfl, by omega, H_g.out.symm, (by first | trivial | rfl)⟩
          case measure => simp [intOf]; omega
      · have i1 : decide (48 ≤ (B : Int)) = false := decide_eq_false h1
        rw [if_neg (fun h => h1 h.1)] at hrx
        have g := stp
        rw [hrx] at g
        clear stp
        have H_hp0 := Lib.hid hp0; clear hp0; have H_hdg := Lib.hid hdg; clear hdg; have H_g := Lib.hid g; clear g; have H_hrx := Lib.hid hrx; clear hrx
        go_wp2_with fail
        go_roundw
        case rel => exact ⟨p + 1, _, by omega, by go_num, by rfl, by omega, H_g.out.symm, (by first | trivial | rfl)⟩
        case measure => simp [intOf]; omega
    · have g1 : ¬ (p : Int) < (s.size : Int) := by omega
      have e0 : acc = dgL s.data.toList 0 := by
        rw [← hdg, List.drop_of_length_le (by rw [Array.length_toList]; have : s.size = s.data.size := rfl; omega)]; rfl
      have pb := psN_bound s
      have ways := ps_ways s
      have q := rtext_any (psN s) (by omega) w
      clear hdg hp0
      by_cases h0 : 0 < s.size
      · have i0 : decide ((0 : Int) < (s.size : Int)) = true := decide_eq_true (by omega)
        have i9 : (0 : Int) < (s.size : Int) := by omega
        cases h1 : (((s[0]'h0).toNat : Int) == 45) with
        | true =>
          have eN := psN_neg s h0 h1
          rw [← e0] at eN
          generalize psN s = N at *
          generalize tS N = T at *
          generalize tE N = F at *
          have kN : IntKind.i64.wrap (-acc) = N := by rw [IntWalk.i64_in _ (by omega)]; omega
          rcases ways with ⟨rfl, eR, eE⟩ | ⟨rfl, eT, eR, eE⟩ | ⟨rfl, hne, eR, eE⟩
          · have H_q := Lib.hid q; clear q; have H_pb := Lib.hid pb; clear pb; have H_e0 := Lib.hid e0; clear e0; have H_eR := Lib.hid eR; clear eR; have H_eE := Lib.hid eE; clear eE; have H_eN := Lib.hid eN; clear eN
            go_wp2_with fail
            (with_reducible refine H_q.out.mono ?_)
            rintro e w2 ⟨rfl, b2⟩
            have bb2 := b2
            have H_b2 := Lib.hid b2; clear b2; have H_bb2 := Lib.hid bb2; clear bb2
            go_wp2_with fail
            go_ret2
            exact ⟨by rw [H_eR.out, H_eE.out]; rfl, H_bb2.out⟩
          · subst T
            have H_q := Lib.hid q; clear q; have H_pb := Lib.hid pb; clear pb; have H_e0 := Lib.hid e0; clear e0; have H_eR := Lib.hid eR; clear eR; have H_eE := Lib.hid eE; clear eE; have H_eN := Lib.hid eN; clear eN
            go_wp2_with fail
            (with_reducible refine H_q.out.mono ?_)
            rintro e w2 ⟨rfl, b2⟩
            have bb2 := b2
            have H_b2 := Lib.hid b2; clear b2; have H_bb2 := Lib.hid bb2; clear bb2
            go_wp2_with fail
            go_ret2
            exact ⟨by rw [H_eR.out, H_eE.out]; rfl, H_bb2.out⟩
          · have H_q := Lib.hid q; clear q; have H_pb := Lib.hid pb; clear pb; have H_e0 := Lib.hid e0; clear e0; have H_eR := Lib.hid eR; clear eR; have H_eE := Lib.hid eE; clear eE; have H_eN := Lib.hid eN; clear eN
            go_wp2_with fail
            (with_reducible refine H_q.out.mono ?_)
            rintro e w2 ⟨rfl, b2⟩
            have bb2 := b2
            have H_b2 := Lib.hid b2; clear b2; have H_bb2 := Lib.hid bb2; clear bb2
            go_wp2_with fail
            go_ret2
            exact ⟨by rw [H_eR.out, H_eE.out]; rfl, H_bb2.out⟩
        | false =>
          have eN := psN_pos s h0 h1
          rw [← e0] at eN
          generalize psN s = N at *
          generalize tS N = T at *
          generalize tE N = F at *
          subst eN
          rcases ways with ⟨rfl, eR, eE⟩ | ⟨rfl, eT, eR, eE⟩ | ⟨rfl, hne, eR, eE⟩
          · have H_q := Lib.hid q; clear q; have H_pb := Lib.hid pb; clear pb; have H_e0 := Lib.hid e0; clear e0; have H_eR := Lib.hid eR; clear eR; have H_eE := Lib.hid eE; clear eE
            go_wp2_with fail
            (with_reducible refine H_q.out.mono ?_)
            rintro e w2 ⟨rfl, b2⟩
            have bb2 := b2
            have H_b2 := Lib.hid b2; clear b2; have H_bb2 := Lib.hid bb2; clear bb2
            go_wp2_with fail
            go_ret2
            exact ⟨by rw [H_eR.out, H_eE.out]; rfl, H_bb2.out⟩
          · subst T
            have H_q := Lib.hid q; clear q; have H_pb := Lib.hid pb; clear pb; have H_e0 := Lib.hid e0; clear e0; have H_eR := Lib.hid eR; clear eR; have H_eE := Lib.hid eE; clear eE
            go_wp2_with fail
            (with_reducible refine H_q.out.mono ?_)
            rintro e w2 ⟨rfl, b2⟩
            have bb2 := b2
            have H_b2 := Lib.hid b2; clear b2; have H_bb2 := Lib.hid bb2; clear bb2
            go_wp2_with fail
            go_ret2
            exact ⟨by rw [H_eR.out, H_eE.out]; rfl, H_bb2.out⟩
          · have H_q := Lib.hid q; clear q; have H_pb := Lib.hid pb; clear pb; have H_e0 := Lib.hid e0; clear e0; have H_eR := Lib.hid eR; clear eR; have H_eE := Lib.hid eE; clear eE
            go_wp2_with fail
            (with_reducible refine H_q.out.mono ?_)
            rintro e w2 ⟨rfl, b2⟩
            have bb2 := b2
            have H_b2 := Lib.hid b2; clear b2; have H_bb2 := Lib.hid bb2; clear bb2
            go_wp2_with fail
            go_ret2
            exact ⟨by rw [H_eR.out, H_eE.out]; rfl, H_bb2.out⟩
      · obtain ⟨eN, _⟩ := psN_nil s h0
        have i0 : decide ((0 : Int) < (s.size : Int)) = false := decide_eq_false (by omega)
        rw [← e0] at eN
        generalize psN s = N at *
        generalize tS N = T at *
        generalize tE N = F at *
        subst eN
        rcases ways with ⟨rfl, eR, eE⟩ | ⟨rfl, eT, eR, eE⟩ | ⟨rfl, hne, eR, eE⟩
        · have H_q := Lib.hid q; clear q; have H_pb := Lib.hid pb; clear pb; have H_e0 := Lib.hid e0; clear e0; have H_eR := Lib.hid eR; clear eR; have H_eE := Lib.hid eE; clear eE
          go_wp2_with fail
          (with_reducible refine H_q.out.mono ?_)
          rintro e w2 ⟨rfl, b2⟩
          have bb2 := b2
          have H_b2 := Lib.hid b2; clear b2; have H_bb2 := Lib.hid bb2; clear bb2
          go_wp2_with fail
          go_ret2
          exact ⟨by rw [H_eR.out, H_eE.out]; rfl, H_bb2.out⟩
        · subst T
          have H_q := Lib.hid q; clear q; have H_pb := Lib.hid pb; clear pb; have H_e0 := Lib.hid e0; clear e0; have H_eR := Lib.hid eR; clear eR; have H_eE := Lib.hid eE; clear eE
          go_wp2_with fail
          (with_reducible refine H_q.out.mono ?_)
          rintro e w2 ⟨rfl, b2⟩
          have bb2 := b2
          have H_b2 := Lib.hid b2; clear b2; have H_bb2 := Lib.hid bb2; clear bb2
          go_wp2_with fail
          go_ret2
          exact ⟨by rw [H_eR.out, H_eE.out]; rfl, H_bb2.out⟩
        · have H_q := Lib.hid q; clear q; have H_pb := Lib.hid pb; clear pb; have H_e0 := Lib.hid e0; clear e0; have H_eR := Lib.hid eR; clear eR; have H_eE := Lib.hid eE; clear eE
          go_wp2_with fail
          (with_reducible refine H_q.out.mono ?_)
          rintro e w2 ⟨rfl, b2⟩
          have bb2 := b2
          have H_b2 := Lib.hid b2; clear b2; have H_bb2 := Lib.hid bb2; clear bb2
          go_wp2_with fail
          go_ret2
          exact ⟨by rw [H_eR.out, H_eE.out]; rfl, H_bb2.out⟩
end Go.Proofs.YtaloadadecoogaaDoor

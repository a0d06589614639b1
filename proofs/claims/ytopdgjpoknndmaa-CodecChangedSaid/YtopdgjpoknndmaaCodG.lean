/- Contracts of the reference of codec: read, Get, SameBytes, SameInts. -/
import Derived.Test.YtopdgjpoknndmaaCodF
namespace Go.Proofs.Ytopdgjpoknndmaa
set_option linter.unusedSimpArgs false
set_option linter.unusedVariables false
set_option maxRecDepth 100000
open Go.RowKit

def rdV (l : List Int) : Int := match rd 0 0 l with | none => 0 | some (u, _) => uz u
def rdN (l : List Int) : Nat := match rd 0 0 l with | none => 0 | some (_, n) => n

theorem or_step2 (U k : Nat) (x : Int) (h0 : 0 ≤ x) (h1 : x ≤ 255) (hU : U < 2 ^ (7 * k)) (hs : (x % 128).toNat * 2 ^ (7 * k) < 18446744073709551616) (hU2 : U < 18446744073709551616) :
    bits .or .u64 (U : Int) (IntKind.u64.wrap (x % 128 * 2 ^ (7 * k))) = ((U + (x % 128).toNat * 2 ^ (7 * k) : Nat) : Int) := by
  have e : x % 128 = (((x % 128).toNat : Nat) : Int) := by omega
  rw [e, IntKind.wrap_u64]
  generalize hm : (x % 128).toNat = m at *
  have e2 : ((m : Int) * 2 ^ (7 * k)) = ((m * 2 ^ (7 * k) : Nat) : Int) := by simp
  rw [e2, Int.emod_eq_of_lt (by omega) (by omega), Int.toNat_natCast]
  exact or_join U (7 * k) m hU hs hU2

theorem ret2_int {a b c d : Int} (h1 : a = c) (h2 : b = d) : Ending.returned (.tuple #[.int .i64 a, .int .i64 b]) = .returned (.tuple #[.int .i64 c, .int .i64 d]) := by rw [h1, h2]

set_option maxHeartbeats 2000000 in
theorem refRead_any (A : Option Addr) (c : Nat) (l : List Int) (w : World) (hl : IntsAt w A .u8 l) (hn : l.length ≤ 1000000) (hb : ∀ i, 0 ≤ l.getD i 0 ∧ l.getD i 0 ≤ 255) :
    Calls Try.prog 30 #[.slice A l.length c] w fun e w' => e = .returned (.tuple #[.int .i64 (rdV l), .int .i64 (rdN l)]) ∧ w = w' := by
  generalize hN : l.length = N at *
  have H_hl := Lib.hid hl; clear hl; have H_hb := Lib.hid hb; clear hb; have H_hN := Lib.hid hN; clear hN
  go_enter Try.func30, Try.ntmps30
  go_wp2
  go_loop [4, 5] (fun u i => ∃ k U : Nat, k ≤ N ∧ i = .int .i64 k ∧ u = .int .u64 U ∧ k ≤ 10 ∧ U < 2 ^ (7 * k) ∧ rd k U (l.drop k) = rd 0 0 l) (fun _ i => N - (intOf i).toNat)
  case atStart => exact ⟨0, 0, by omega, rfl, rfl, by omega, by decide, by simp⟩
  case round =>
    obtain ⟨k, U, hk, rfl, rfl, hk10, hU, hrd⟩ := hrel
    by_cases hlt : k < N
    · obtain ⟨b, off, hA, hbs, hc⟩ := H_hl.out k (by rw [H_hN.out]; exact hlt)
      have hB := H_hb.out k
      have hB1 := hB.1
      have hB2 := hB.2
      rw [rd_step (by rw [H_hN.out]; exact hlt), rd] at hrd
      subst hA
      generalize l.getD k 0 = x at *
      by_cases h9 : k ≤ 8
      · have d1 : ((k : Int) == 9) = false := by simp; omega
        have hm : (x % 128).toNat < 128 := by omega
        have ho := or_step2 U k x hB1 hB2 hU (sh_lt k _ h9 hm) (by have := u_lt k U (by omega) hU; omega)
        have hol := or_lt U k _ hU hm
        rw [if_neg (by omega), if_neg (by omega)] at hrd
        by_cases hx : 128 ≤ x
        · rw [if_pos (by omega)] at hrd
          have H_hrd := Lib.hid hrd; clear hrd; have H_hB := Lib.hid hB; clear hB; have H_hU := Lib.hid hU; clear hU; have H_ho := Lib.hid ho; clear ho; have H_hol := Lib.hid hol; clear hol; have H_hm := Lib.hid hm; clear hm
          go_wp2
          go_round
          case rel => exact ⟨k + 1, _, by omega, by go_num, val_int H_ho.out, by omega, H_hol.out, H_hrd.out⟩
          case measure => simp [intOf]; omega
        · rw [if_neg (by omega)] at hrd
          by_cases h0 : x = 0 ∧ k > 0
          · rw [if_pos h0] at hrd
            have hz : rdV l = 0 ∧ rdN l = 0 := by simp [rdV, rdN, ← hrd]
            have d3 : (x == 0) = true := by simp [h0.1]
            have d4 : 0 < k := h0.2
            clear h0
            have H_hrd := Lib.hid hrd; clear hrd; have H_hB := Lib.hid hB; clear hB; have H_hU := Lib.hid hU; clear hU; have H_ho := Lib.hid ho; clear ho; have H_hol := Lib.hid hol; clear hol; have H_hm := Lib.hid hm; clear hm; have H_hz := Lib.hid hz; clear hz
            go_wp2
            go_ret2
            exact ⟨ret2_int H_hz.out.1.symm (by rw [H_hz.out.2]; rfl), rfl⟩
          · rw [if_neg h0] at hrd
            have hV : U + (x % 128).toNat * 2 ^ (7 * k) < 18446744073709551616 := by
              have := sh_lt k (x % 128).toNat h9 hm; have := u_lt k U (by omega) hU
              have g3 : (2 : Nat) ^ (7 * (k + 1)) ≤ 2 ^ (7 * 9) := Nat.pow_le_pow_right (by decide) (by omega)
              have : (2 : Nat) ^ (7 * 9) = 9223372036854775808 := by decide
              omega
            rw [← show (x % 128).toNat = x.toNat by omega] at hrd
            generalize U + (x % 128).toNat * 2 ^ (7 * k) = V at *
            have hV2 : (V : Int) ≤ 18446744073709551615 := by omega
            have hz : rdV l = uz V ∧ rdN l = k + 1 := by simp [rdV, rdN, ← hrd]
            have d4 : ((x == 0) = false ∧ True) ∨ ((x == 0) = true ∧ decide (0 < k) = false) := by simp; omega
            clear h0 hV
            by_cases hpar : V % 2 = 1
            · have dp : ((V : Int) % 2 == 1) = true := by simp; omega
              have hu : uz V = -((V : Int) / 2) - 1 := by simp only [uz, hpar, if_true]; omega
              clear hpar
              rcases d4 with ⟨d4, d5⟩ | ⟨d4, d5⟩
              all_goals
                have H_hrd := Lib.hid hrd; clear hrd; have H_hB := Lib.hid hB; clear hB; have H_hU := Lib.hid hU; clear hU; have H_hol := Lib.hid hol; clear hol; have H_hm := Lib.hid hm; clear hm; have H_hz := Lib.hid hz; clear hz; have H_hu := Lib.hid hu; clear hu
                go_wp2
                all_goals
                  go_ret2
                  exact ⟨ret2_int (by rw [H_hz.out.1, H_hu.out]) (by rw [H_hz.out.2]; rfl), rfl⟩
            · have dp : ((V : Int) % 2 == 1) = false := by simp; omega
              have hu : uz V = (V : Int) / 2 := by simp only [uz, hpar, if_false]; omega
              clear hpar
              rcases d4 with ⟨d4, d5⟩ | ⟨d4, d5⟩
              all_goals
                have H_hrd := Lib.hid hrd; clear hrd; have H_hB := Lib.hid hB; clear hB; have H_hU := Lib.hid hU; clear hU; have H_hol := Lib.hid hol; clear hol; have H_hm := Lib.hid hm; clear hm; have H_hz := Lib.hid hz; clear hz; have H_hu := Lib.hid hu; clear hu
                go_wp2
                all_goals
                  go_ret2
                  exact ⟨ret2_int (by rw [H_hz.out.1, H_hu.out]) (by rw [H_hz.out.2]; rfl), rfl⟩
      · by_cases h10 : k = 9
        · have d1 : ((k : Int) == 9) = true := by simp [h10]
          have h63 : (2 : Nat) ^ (7 * k) = 9223372036854775808 := by rw [h10]
          have hk9 : k ≤ 9 := by omega
          by_cases hx : 1 < x
          · rw [if_neg (by omega), if_pos (by omega)] at hrd
            have hz : rdV l = 0 ∧ rdN l = 0 := by simp [rdV, rdN, ← hrd]
            have H_hrd := Lib.hid hrd; clear hrd; have H_hB := Lib.hid hB; clear hB; have H_hU := Lib.hid hU; clear hU; have H_h10 := Lib.hid h10; clear h10; have H_h63 := Lib.hid h63; clear h63; have H_hz := Lib.hid hz; clear hz
            go_wp2
            go_ret2
            exact ⟨ret2_int H_hz.out.1.symm (by rw [H_hz.out.2]; rfl), rfl⟩
          · have d2 : decide (1 < x) = false := by simp; omega
            have d4 : 0 < k := by omega
            rw [if_neg (by omega), if_neg (by omega), if_neg (by omega)] at hrd
            have hm : (x % 128).toNat ≤ 1 := by omega
            have ho := or_step2 U k x hB1 hB2 hU (by rw [h63]; omega) (by rw [h63] at hU; omega)
            by_cases h0 : x = 0
            · rw [if_pos ⟨h0, by omega⟩] at hrd
              have hz : rdV l = 0 ∧ rdN l = 0 := by simp [rdV, rdN, ← hrd]
              have d3 : (x == 0) = true := by simp [h0]
              clear h0
              have H_hrd := Lib.hid hrd; clear hrd; have H_hB := Lib.hid hB; clear hB; have H_hU := Lib.hid hU; clear hU; have H_ho := Lib.hid ho; clear ho; have H_hm := Lib.hid hm; clear hm; have H_hz := Lib.hid hz; clear hz; have H_h63 := Lib.hid h63; clear h63; have H_h10 := Lib.hid h10; clear h10
              go_wp2
              go_ret2
              exact ⟨ret2_int H_hz.out.1.symm (by rw [H_hz.out.2]; rfl), rfl⟩
            · rw [if_neg (by simp [h0])] at hrd
              have d3 : (x == 0) = false := by simp [h0]
              have hV : U + (x % 128).toNat * 2 ^ (7 * k) < 18446744073709551616 := by rw [h63] at hU ⊢; omega
              rw [← show (x % 128).toNat = x.toNat by omega] at hrd
              generalize U + (x % 128).toNat * 2 ^ (7 * k) = V at *
              have hV2 : (V : Int) ≤ 18446744073709551615 := by omega
              have hz : rdV l = uz V ∧ rdN l = k + 1 := by simp [rdV, rdN, ← hrd]
              clear h0 hV
              by_cases hpar : V % 2 = 1
              · have dp : ((V : Int) % 2 == 1) = true := by simp; omega
                have hu : uz V = -((V : Int) / 2) - 1 := by simp only [uz, hpar, if_true]; omega
                clear hpar
                have H_hrd := Lib.hid hrd; clear hrd; have H_hB := Lib.hid hB; clear hB; have H_hU := Lib.hid hU; clear hU; have H_hm := Lib.hid hm; clear hm; have H_hz := Lib.hid hz; clear hz; have H_hu := Lib.hid hu; clear hu; have H_h63 := Lib.hid h63; clear h63; have H_h10 := Lib.hid h10; clear h10
                go_wp2
                go_ret2
                exact ⟨ret2_int (by rw [H_hz.out.1, H_hu.out]) (by rw [H_hz.out.2]; rfl), rfl⟩
              · have dp : ((V : Int) % 2 == 1) = false := by simp; omega
                have hu : uz V = (V : Int) / 2 := by simp only [uz, hpar, if_false]; omega
                clear hpar
                have H_hrd := Lib.hid hrd; clear hrd; have H_hB := Lib.hid hB; clear hB; have H_hU := Lib.hid hU; clear hU; have H_hm := Lib.hid hm; clear hm; have H_hz := Lib.hid hz; clear hz; have H_hu := Lib.hid hu; clear hu; have H_h63 := Lib.hid h63; clear h63; have H_h10 := Lib.hid h10; clear h10
                go_wp2
                go_ret2
                exact ⟨ret2_int (by rw [H_hz.out.1, H_hu.out]) (by rw [H_hz.out.2]; rfl), rfl⟩
        · rw [if_pos (by omega)] at hrd
          have hz : rdV l = 0 ∧ rdN l = 0 := by simp [rdV, rdN, ← hrd]
          have d2 : decide ((k : Int) < 10) = false := by simp; omega
          clear h10
          have H_hrd := Lib.hid hrd; clear hrd; have H_hB := Lib.hid hB; clear hB; have H_hU := Lib.hid hU; clear hU; have H_hz := Lib.hid hz; clear hz
          go_wp2
          go_ret2
          exact ⟨ret2_int H_hz.out.1.symm (by rw [H_hz.out.2]; rfl), rfl⟩
    · have hkN : l.drop k = [] := List.drop_eq_nil_of_le (by rw [H_hN.out]; omega)
      rw [hkN, rd] at hrd
      have hz : rdV l = 0 ∧ rdN l = 0 := by simp [rdV, rdN, ← hrd]
      have d2 : decide (k < N) = false := by simp; omega
      have H_hrd := Lib.hid hrd; clear hrd; have H_hU := Lib.hid hU; clear hU; have H_hkN := Lib.hid hkN; clear hkN; have H_hz := Lib.hid hz; clear hz
      go_wp2
      go_ret2
      exact ⟨ret2_int H_hz.out.1.symm (by rw [H_hz.out.2]; rfl), rfl⟩
end Go.Proofs.Ytopdgjpoknndmaa

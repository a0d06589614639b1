/- Contracts of package codec: the reader's next. -/
import Derived.Test.YtopdgjpoknndmaaCodC
import Derived.Test.YtopdgjpoknndmaaRd
namespace Go.Proofs.Ytopdgjpoknndmaa
set_option linter.unusedSimpArgs false
set_option linter.unusedVariables false
set_option maxRecDepth 100000
open Go.RowKit

theorem rd_step {l : List Int} {k i u : Nat} (h : k < l.length) : rd i u (l.drop k) = rd i u (l.getD k 0 :: l.drop (k + 1)) := by
  rw [List.drop_eq_getElem_cons h]; simp [List.getD_eq_getElem?_getD, h]

def NextPost (g : Nat) (A : Option Addr) (l : List Int) (w : World) (e : Ending) (w' : World) : Prop :=
  (rd 0 0 l = none ∧ e = .panicked [{ v := .iface 65 (.agg #[]), recovered := false }] ∧ w = w') ∨
  ∃ u n A' c', rd 0 0 l = some (u, n) ∧ e = .returned (.int .i64 (uz u)) ∧ w' = w.setCell ⟨g, 0, none⟩ (.slice A' (l.drop n).length c') ∧ (l.drop n).length ≤ c' ∧ ∀ W, IntsAt W A .u8 l → IntsAt W A' .u8 (l.drop n)

theorem next_ret {g N k V c' : Nat} {A A' : Option Addr} {l : List Int} {w : World} {z : Int} (hN : l.length = N) (hr : some (V, k + 1) = rd 0 0 l) (hz : z = uz V) (hc : N - (k + 1) ≤ c') (hi : ∀ W, IntsAt W A .u8 l → IntsAt W A' .u8 (l.drop (k + 1))) :
    NextPost g A l w (.returned (.int .i64 z)) (w.setCell ⟨g, 0, none⟩ (.slice A' (N - (k + 1)) c')) :=
  .inr ⟨V, k + 1, A', c', hr.symm, by rw [hz], by rw [List.length_drop, hN], by rw [List.length_drop, hN]; exact hc, hi⟩

set_option maxHeartbeats 2000000 in
theorem next_any (g : Nat) (A : Option Addr) (c : Nat) (l : List Int) (w : World) (hl : IntsAt w A .u8 l) (hn : l.length ≤ 1000000) (hcap : l.length ≤ c) (hb : ∀ i, 0 ≤ l.getD i 0 ∧ l.getD i 0 ≤ 255)
    (hg : w.cell? ⟨g, 0, none⟩ = some (.slice A l.length c)) (hf : w.frozen? ⟨g, 0, none⟩ = false) :
    Calls Try.prog 29 #[.pointer (some ⟨g, 0, none⟩)] w (NextPost g A l w) := by
  generalize hN : l.length = N at *
  have H_hl := Lib.hid hl; clear hl; have H_hb := Lib.hid hb; clear hb; have H_hN := Lib.hid hN; clear hN
  go_enter Try.func29, Try.ntmps29
  go_wp2
  go_loop [3, 11] (fun u i => ∃ k U : Nat, k ≤ N ∧ i = .int .i64 k ∧ u = .int .u64 U ∧ k ≤ 10 ∧ U < 2 ^ (7 * k) ∧ rd k U (l.drop k) = rd 0 0 l) (fun _ i => N - (intOf i).toNat)
  case atStart => exact ⟨0, 0, by omega, rfl, rfl, by omega, by decide, by simp⟩
  case round =>
    obtain ⟨k, U, hk, rfl, rfl, hk10, hU, hrd⟩ := hrel
    by_cases hlt : k < N
    · obtain ⟨b, off, hA, hbs, hc⟩ := H_hl.out k (by rw [H_hN.out]; exact hlt)
      have hB := H_hb.out k
      have hB1 := hB.1
      have hB2 := hB.2
      rw [rd_step (by rw [H_hN.out]; exact hlt), rd] at hrd
      subst hA
      generalize l.getD k 0 = x at *
      by_cases h9 : k ≤ 8
      · have d1 : ((k : Int) == 9) = false := by simp; omega
        have d2 : decide (9 < (k : Int)) = false := by simp; omega
        have hm : (x % 128).toNat < 128 := by omega
        have ho := or_step U k x hB1 hB2 hU (sh_lt k _ h9 hm) (by have := u_lt k U (by omega) hU; omega)
        have hol := or_lt U k _ hU hm
        rw [if_neg (by omega), if_neg (by omega)] at hrd
        by_cases hx : 127 < x
        · rw [if_pos (by omega)] at hrd
          have H_hrd := Lib.hid hrd; clear hrd; have H_hB := Lib.hid hB; clear hB; have H_hU := Lib.hid hU; clear hU; have H_ho := Lib.hid ho; clear ho; have H_hol := Lib.hid hol; clear hol; have H_hm := Lib.hid hm; clear hm
          go_wp2
          go_round
          case rel => exact ⟨k + 1, _, by omega, by go_num, val_int H_ho.out, by omega, H_hol.out, H_hrd.out⟩
          case measure => simp [intOf]; omega
        · rw [if_neg (by omega)] at hrd
          by_cases h0 : x = 0 ∧ k > 0
          · rw [if_pos h0] at hrd
            have d3 : (x == 0) = true := by simp [h0.1]
            have d4 : 0 < (k : Int) := by omega
            have hlast : NextPost g (some ⟨b, off, none⟩) l w (.panicked [{ v := .iface 65 (.agg #[]), recovered := false }]) w := .inl ⟨hrd.symm, rfl, rfl⟩
            clear h0
            have H_hrd := Lib.hid hrd; clear hrd; have H_hB := Lib.hid hB; clear hB; have H_hU := Lib.hid hU; clear hU; have H_ho := Lib.hid ho; clear ho; have H_hol := Lib.hid hol; clear hol; have H_hm := Lib.hid hm; clear hm; have H_hlast := Lib.hid hlast; clear hlast
            go_wp2
            exact ⟨rfl, H_hlast.out⟩
          · rw [if_neg h0] at hrd
            have hV : U + (x % 128).toNat * 2 ^ (7 * k) < 18446744073709551616 := by
              have := sh_lt k (x % 128).toNat h9 hm; have := u_lt k U (by omega) hU
              have g3 : (2 : Nat) ^ (7 * (k + 1)) ≤ 2 ^ (7 * 9) := Nat.pow_le_pow_right (by decide) (by omega)
              have : (2 : Nat) ^ (7 * 9) = 9223372036854775808 := by decide
              omega
            have ex : (x % 128).toNat = x.toNat := by omega
            have hfin := fin_eq _ hV
            rw [← ho, ex] at hfin
            have hd : ∀ W, IntsAt W (some ⟨b, off, none⟩) .u8 l → IntsAt W (some ⟨b, off + (k + 1), none⟩) .u8 (l.drop (k + 1)) := fun W h => h.drop (k + 1)
            have he : N = k + 1 → ∀ W, IntsAt W (some ⟨b, off, none⟩) .u8 l → IntsAt W (some ⟨b, off, none⟩) .u8 (l.drop (k + 1)) := fun h _ _ => IntsAt.empty (by rw [List.drop_eq_nil_of_le]; rw [H_hN.out]; omega)
            have d4 : ((x == 0) = false ∧ True) ∨ ((x == 0) = true ∧ decide (0 < k) = false) := by simp; omega
            clear h0
            rcases d4 with ⟨d4, d5⟩ | ⟨d4, d5⟩
            all_goals
              have H_hrd := Lib.hid hrd; clear hrd; have H_hB := Lib.hid hB; clear hB; have H_hU := Lib.hid hU; clear hU; have H_ho := Lib.hid ho; clear ho; have H_hol := Lib.hid hol; clear hol; have H_hm := Lib.hid hm; clear hm; have H_hV := Lib.hid hV; clear hV; have H_ex := Lib.hid ex; clear ex; have H_hfin := Lib.hid hfin; clear hfin; have H_hd := Lib.hid hd; clear hd; have H_he := Lib.hid he; clear he
              go_wp2
              all_goals
                go_ret
                first
                  | exact next_ret H_hN.out H_hrd.out H_hfin.out (by omega) (H_he.out (by omega))
                  | exact next_ret H_hN.out H_hrd.out H_hfin.out (by omega) H_hd.out
      · by_cases h10 : k = 9
        · have d1 : ((k : Int) == 9) = true := by simp [h10]
          have h63 : (2 : Nat) ^ (7 * k) = 9223372036854775808 := by rw [h10]
          by_cases hx : 1 < x
          · rw [if_neg (by omega), if_pos (by omega)] at hrd
            have hlast : NextPost g (some ⟨b, off, none⟩) l w (.panicked [{ v := .iface 65 (.agg #[]), recovered := false }]) w := .inl ⟨hrd.symm, rfl, rfl⟩
            have H_hrd := Lib.hid hrd; clear hrd; have H_hB := Lib.hid hB; clear hB; have H_hU := Lib.hid hU; clear hU; have H_hlast := Lib.hid hlast; clear hlast; have H_h10 := Lib.hid h10; clear h10; have H_h63 := Lib.hid h63; clear h63
            go_wp2
            exact ⟨rfl, H_hlast.out⟩
          · have d2 : decide (1 < x) = false := by simp; omega
            have d5 : decide (9 < (k : Int)) = false := by simp; omega
            rw [if_neg (by omega), if_neg (by omega), if_neg (by omega)] at hrd
            have hm : (x % 128).toNat ≤ 1 := by omega
            have ho := or_step U k x hB1 hB2 hU (by rw [h63]; omega) (by rw [h63] at hU; omega)
            by_cases h0 : x = 0
            · rw [if_pos ⟨h0, by omega⟩] at hrd
              have d3 : (x == 0) = true := by simp [h0]
              have d4 : 0 < (k : Int) := by omega
              have hlast : NextPost g (some ⟨b, off, none⟩) l w (.panicked [{ v := .iface 65 (.agg #[]), recovered := false }]) w := .inl ⟨hrd.symm, rfl, rfl⟩
              clear h0
              have H_hrd := Lib.hid hrd; clear hrd; have H_hB := Lib.hid hB; clear hB; have H_hU := Lib.hid hU; clear hU; have H_ho := Lib.hid ho; clear ho; have H_hm := Lib.hid hm; clear hm; have H_hlast := Lib.hid hlast; clear hlast; have H_h63 := Lib.hid h63; clear h63; have H_h10 := Lib.hid h10; clear h10
              go_wp2
              exact ⟨rfl, H_hlast.out⟩
            · rw [if_neg (by simp [h0])] at hrd
              have d3 : (x == 0) = false := by simp [h0]
              have hV : U + (x % 128).toNat * 2 ^ (7 * k) < 18446744073709551616 := by rw [h63] at hU ⊢; omega
              have ex : (x % 128).toNat = x.toNat := by omega
              have hfin := fin_eq _ hV
              rw [← ho, ex] at hfin
              have hd : ∀ W, IntsAt W (some ⟨b, off, none⟩) .u8 l → IntsAt W (some ⟨b, off + (k + 1), none⟩) .u8 (l.drop (k + 1)) := fun W h => h.drop (k + 1)
              have he : N = k + 1 → ∀ W, IntsAt W (some ⟨b, off, none⟩) .u8 l → IntsAt W (some ⟨b, off, none⟩) .u8 (l.drop (k + 1)) := fun h _ _ => IntsAt.empty (by rw [List.drop_eq_nil_of_le]; rw [H_hN.out]; omega)
              have hk9 : k ≤ 9 := by omega
              clear h0
              have H_hrd := Lib.hid hrd; clear hrd; have H_hB := Lib.hid hB; clear hB; have H_hU := Lib.hid hU; clear hU; have H_ho := Lib.hid ho; clear ho; have H_hm := Lib.hid hm; clear hm; have H_hV := Lib.hid hV; clear hV; have H_ex := Lib.hid ex; clear ex; have H_hfin := Lib.hid hfin; clear hfin; have H_hd := Lib.hid hd; clear hd; have H_he := Lib.hid he; clear he; have H_h63 := Lib.hid h63; clear h63; have H_h10 := Lib.hid h10; clear h10
              go_wp2
              all_goals
                go_ret
                first
                  | exact next_ret H_hN.out H_hrd.out H_hfin.out (by omega) (H_he.out (by omega))
                  | exact next_ret H_hN.out H_hrd.out H_hfin.out (by omega) H_hd.out
        · have d5 : k = 10 := by omega
          rw [if_pos (by omega)] at hrd
          have hlast : NextPost g (some ⟨b, off, none⟩) l w (.panicked [{ v := .iface 65 (.agg #[]), recovered := false }]) w := .inl ⟨hrd.symm, rfl, rfl⟩
          have d1 : ((k : Int) == 9) = false := by simp; omega
          have d2 : 9 < (k : Int) := by omega
          clear d5 h10
          have H_hrd := Lib.hid hrd; clear hrd; have H_hB := Lib.hid hB; clear hB; have H_hU := Lib.hid hU; clear hU; have H_hlast := Lib.hid hlast; clear hlast
          go_wp2
          exact ⟨rfl, H_hlast.out⟩
    · have hkN : l.drop k = [] := List.drop_eq_nil_of_le (by rw [H_hN.out]; omega)
      rw [hkN, rd] at hrd
      have hlast : NextPost g A l w (.panicked [{ v := .iface 65 (.agg #[]), recovered := false }]) w := .inl ⟨hrd.symm, rfl, rfl⟩
      have H_hrd := Lib.hid hrd; clear hrd; have H_hU := Lib.hid hU; clear hU; have H_hlast := Lib.hid hlast; clear hlast; have H_hkN := Lib.hid hkN; clear hkN
      go_wp2
      exact ⟨rfl, H_hlast.out⟩
end Go.Proofs.Ytopdgjpoknndmaa

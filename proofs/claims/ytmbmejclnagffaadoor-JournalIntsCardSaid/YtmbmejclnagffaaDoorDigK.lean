/- Contracts: digest.Next in another spelling; the reference's Sum. -/
import Derived.Test.YtmbmejclnagffaaDoorDigN
namespace Go.Proofs.YtmbmejclnagffaaDoor
set_option linter.unusedSimpArgs false
set_option linter.unusedVariables false
set_option maxRecDepth 100000
open Go.RowKit

theorem infoI64 : (Tryd.prog.info? 3).map (fun i => (i.zero, i.size, i.bytes)) = some (some (.int .i64 0), 1, 8) := by kernel_rfl
theorem infoU8 : (Tryd.prog.info? 5).map (fun i => (i.zero, i.size, i.bytes)) = some (some (.int .u8 0), 1, 1) := by kernel_rfl
theorem digNext_at (d : Int) (A : Option Addr) (c n : Nat) (l : List Int) (hln : l.length = n) (w : World) (hd : 0 ≤ d ∧ d ≤ 18446744073709551615) (hl : IntsAt w A .i64 l) (hn : n ≤ 1000000) (hb : Fit l) (ht : Tab w) :
    Calls Tryd.prog 55 #[.int .u64 d, .slice A n c] w fun e w' => e = .returned (.int .u64 (nextB d l)) ∧ Below w.heap.size w w' := by
  subst hln; exact digNext_any d A c l w hd hl hn hb ht
theorem fit_cons {x : Int} {l : List Int} (hx : -9223372036854775808 ≤ x ∧ x ≤ 9223372036854775807) (h : Fit l) : Fit (x :: l) := fun y hy => by
  rcases List.mem_cons.1 hy with rfl | h1
  · exact hx
  · exact h y h1

set_option maxHeartbeats 1000000 in
theorem refSum_any (A : Option Addr) (c : Nat) (l : List Int) (w : World) (hl : IntsAt w A .u8 l) (hn : l.length ≤ 9223372036854775806) (hb : ∀ i, 0 ≤ l.getD i 0 ∧ l.getD i 0 ≤ 255) :
    Calls Tryd.prog 73 #[.slice A l.length c] w fun e w' => e = .returned (.int .u64 (sumB 14695981039346656037 l)) ∧ w = w' := by
  generalize hN : l.length = N at *
  have H_hl := Lib.hid hl; clear hl; have H_hb := Lib.hid hb; clear hb; have H_hN := Lib.hid hN; clear hN
  go_enter Tryd.func73, Tryd.ntmps73
  go_wp2
  go_loop [3, 4] (fun d i => ∃ k : Nat, k ≤ N ∧ i = .int .i64 k ∧ d = .int .u64 (sumB 14695981039346656037 (l.take k))) (fun _ i => N - (intOf i).toNat)
  case atStart => exact ⟨0, by omega, rfl, rfl⟩
  case round =>
    obtain ⟨k, hk, rfl, rfl⟩ := hrel
    by_cases hlt : k < N
    · obtain ⟨b, off, hA, hbs, hc⟩ := H_hl.out k (by rw [H_hN.out]; exact hlt)
      have hB := H_hb.out k
      have hB1 := hB.1
      have hB2 := hB.2
      have hs := sumB_take_succ 14695981039346656037 l k (by rw [H_hN.out]; exact hlt)
      subst hA
      generalize l.getD k 0 = x at *
      generalize sumB 14695981039346656037 (l.take k) = D at *
      have H_hs := Lib.hid hs; clear hs; have H_hB := Lib.hid hB; clear hB
      go_wp2
      go_round
      case rel => exact ⟨k + 1, by omega, by go_num, by rw [H_hs.out]; rfl⟩
      case measure => simp [intOf]; omega
    · have ht : l.take k = l := List.take_of_length_le (by rw [H_hN.out]; omega)
      rw [ht]
      have H_ht := Lib.hid ht; clear ht
      go_wp2
      go_ret
      exact ⟨rfl, rfl⟩
end Go.Proofs.YtmbmejclnagffaaDoor

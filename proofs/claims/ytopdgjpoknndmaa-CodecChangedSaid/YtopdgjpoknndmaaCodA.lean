/- Contracts of package codec: number, put, Put. -/
import Derived.Test.YtopdgjpoknndmaaDigA
import Derived.Test.YtopdgjpoknndmaaNum
namespace Go.Proofs.Ytopdgjpoknndmaa
set_option linter.unusedSimpArgs false
set_option linter.unusedVariables false
set_option maxRecDepth 100000
open Go.RowKit

theorem number_any (n : Int) (w : World) (h1 : -9223372036854775808 ≤ n) (h2 : n ≤ 9223372036854775807) :
    Calls Try.prog 33 #[.int .i64 n] w fun e w' => e = .returned (.int .u64 (zz n : Nat)) ∧ w = w' := by
  go_enter Try.func33, Try.ntmps33
  go_wp2
  go_ret
  exact ⟨ret_int (num_eq n h1 h2), rfl⟩

theorem infoU8 : (Try.prog.info? 5).map (fun i => (i.zero, i.size, i.bytes)) = some (some (.int .u8 0), 1, 1) := by kernel_rfl

set_option maxHeartbeats 1000000 in
theorem put_any (base : Nat) (A : Option Addr) (c : Nat) (l : List Int) (n : Int) (w : World) (hown : OwnInts w base 5 .u8 A c l) (hlen : l.length ≤ 1000000) (hbase : base ≤ w.heap.size)
    (h1 : -9223372036854775808 ≤ n) (h2 : n ≤ 9223372036854775807) :
    Calls Try.prog 23 #[.slice A l.length c, .int .i64 n] w (OwnPost base 5 .u8 (l ++ vb (zz n)) (blockOf A) w) := by
  obtain ⟨i0, hi, hz0, hz1, hz2⟩ := info_parts infoU8
  have hzz := zz_lt n h1 h2
  have hvl := vb_len (zz n) hzz
  have H_hown := Lib.hid hown; clear hown; have H_hvl := Lib.hid hvl; clear hvl
  go_enter Try.func23, Try.ntmps23
  go_wp2_with fail
  refine (number_any n w h1 h2).mono ?_; rintro e w1 ⟨rfl, rfl⟩
  generalize hZ : zz n = Z at *
  have H_hZ := Lib.hid hZ; clear hZ
  go_wp2_with fail
  go_loopw [0, 5] (fun b u wr => ∃ (B : Option Addr) (d : Nat) (l2 : List Int) (U : Nat), b = .slice B l2.length d ∧ u = .int .u64 U ∧ OwnInts wr base 5 .u8 B d l2 ∧ U < 18446744073709551616 ∧ l2 ++ vb U = l ++ vb Z ∧ w.grownBy wr (blockOf A) ∧ (blockOf B = blockOf A ∨ ∃ g, blockOf B = some g ∧ w.heap.size ≤ g)) (fun _ u _ => (intOf u).toNat)
  case atStart => exact ⟨A, c, l, Z, rfl, rfl, H_hown.out, hzz, rfl, grown_refl _ _, .inl rfl⟩
  case round =>
    obtain ⟨B, d, l2, U, rfl, rfl, ho, hU, hv, hg, hB⟩ := hrel
    by_cases hlt : 127 < U
    · have hlen2 : l2.length ≤ 1000010 := by
        have := congrArg List.length hv; simp at this; have := H_hvl.out; omega
      have hgs := hg.size
      have H_ho := Lib.hid ho; clear ho; have H_hv := Lib.hid hv; clear hv; have H_hg := Lib.hid hg; clear hg; have H_hB := Lib.hid hB; clear hB
      go_wp2_with (at_builtin; refine wp_app_ints _ rfl (.tmp 12) (.tmp 16) _ rfl base 5 i0 _ 1 Try.underlying23 hi hz0 hz1 hz2 rfl .u8 B d l2 rfl (H_ho.out.alloc _) (some ⟨wr.heap.size, 0, none⟩) 1 [bits .or .u8 (U % 256) 128] rfl (ints_new1 _ _ _ _ _ rfl) ?c1 ?c2 ?c3 ?_)
      case c1 => simp; omega
      case c2 => simp; omega
      case c3 => simp; omega
      intro B' d' w2 ho2 hg2 hB2
      have e128 : bits .or .u8 ((U : Int) % 256) 128 = ((U % 128 + 128 : Nat) : Int) := by rw [← or128, IntKind.wrap_u8']
      rw [e128] at ho2 ⊢
      have hgg : w.grownBy w2 (blockOf A) := grown_then (grown_alloc H_hg.out _) hg2 H_hB.out
      have hBB := block_then H_hB.out hB2 (by omega)
      have H_ho2 := Lib.hid ho2; clear ho2; have H_hg2 := Lib.hid hg2; clear hg2; have H_hB2 := Lib.hid hB2; clear hB2; have H_e128 := Lib.hid e128; clear e128; have H_hgg := Lib.hid hgg; clear hgg; have H_hBB := Lib.hid hBB; clear hBB
      go_wp2_with fail
      go_roundw
      case rel =>
        refine ⟨B', d', l2 ++ [((U % 128 + 128 : Nat) : Int)], U / 128, by simp, by go_num, H_ho2.out, by omega, ?_, H_hgg.out, H_hBB.out⟩
        rw [← H_hv.out, vb_big (show U > 127 by omega)]; simp
      case measure => simp [intOf]; omega
    · have hlen2 : l2.length ≤ 1000010 := by
        have := congrArg List.length hv; simp at this; have := H_hvl.out; omega
      have hgs := hg.size
      rw [vb_small (show ¬ U > 127 by omega)] at hv
      have e256 : (U : Int) % 256 = U := by omega
      have H_ho := Lib.hid ho; clear ho; have H_hv := Lib.hid hv; clear hv; have H_hg := Lib.hid hg; clear hg; have H_hB := Lib.hid hB; clear hB
      go_wp2_with (at_builtin; refine wp_app_ints _ rfl (.tmp 18) (.tmp 21) _ rfl base 5 i0 _ 1 Try.underlying23 hi hz0 hz1 hz2 rfl .u8 B d l2 rfl (H_ho.out.alloc _) (some ⟨wr.heap.size, 0, none⟩) 1 [(U : Int)] rfl (ints_new1 _ _ _ _ _ rfl) ?c4 ?c5 ?c6 ?_)
      case c4 => simp; omega
      case c5 => simp; omega
      case c6 => simp; omega
      intro B' d' w2 ho2 hg2 hB2
      have hgg : w.grownBy w2 (blockOf A) := grown_then (grown_alloc H_hg.out _) hg2 H_hB.out
      have hBB := block_then H_hB.out hB2 (by omega)
      rw [H_hv.out] at ho2
      have hln := congrArg List.length H_hv.out
      simp only [List.length_append, List.length_cons, List.length_nil, Nat.zero_add] at hln
      have H_hln := Lib.hid hln; clear hln
      have H_ho2 := Lib.hid ho2; clear ho2; have H_hg2 := Lib.hid hg2; clear hg2; have H_hB2 := Lib.hid hB2; clear hB2; have H_hgg := Lib.hid hgg; clear hgg; have H_hBB := Lib.hid hBB; clear hBB; have H_e256 := Lib.hid e256; clear e256
      go_wp2_with fail
      go_ret
      exact ⟨B', d', ret_slice (by rw [H_hln.out]; simp), H_ho2.out, H_hgg.out, H_hBB.out⟩
end Go.Proofs.Ytopdgjpoknndmaa

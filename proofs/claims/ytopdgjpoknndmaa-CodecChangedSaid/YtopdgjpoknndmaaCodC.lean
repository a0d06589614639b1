/- Contracts of the references of digest and codec: Sum, one, Put, bytes. -/
import Derived.Test.YtopdgjpoknndmaaCodB
namespace Go.Proofs.Ytopdgjpoknndmaa
set_option linter.unusedSimpArgs false
set_option linter.unusedVariables false
set_option maxRecDepth 100000
open Go.RowKit

theorem val_int {k : IntKind} {a b : Int} (h : a = b) : Value.int k a = Value.int k b := by rw [h]

set_option maxHeartbeats 1000000 in
theorem refSum_any (A : Option Addr) (c : Nat) (l : List Int) (w : World) (hl : IntsAt w A .u8 l) (hn : l.length ≤ 9223372036854775806) (hb : ∀ i, 0 ≤ l.getD i 0 ∧ l.getD i 0 ≤ 255) :
    Calls Try.prog 27 #[.slice A l.length c] w fun e w' => e = .returned (.int .u64 (sumB 14695981039346656037 l)) ∧ w = w' := by
  generalize hN : l.length = N at *
  have H_hl := Lib.hid hl; clear hl; have H_hb := Lib.hid hb; clear hb; have H_hN := Lib.hid hN; clear hN
  go_enter Try.func27, Try.ntmps27
  go_wp2
  go_loop [3, 4] (fun d i => ∃ k : Nat, k ≤ N ∧ i = .int .i64 k ∧ d = .int .u64 (sumB 14695981039346656037 (l.take k))) (fun _ i => N - (intOf i).toNat)
  case atStart => exact ⟨0, by omega, rfl, rfl⟩
  case round =>
    obtain ⟨k, hk, rfl, rfl⟩ := hrel
    by_cases hlt : k < N
    · obtain ⟨b, off, hA, hbs, hc⟩ := H_hl.out k (by rw [H_hN.out]; exact hlt)
      have hB := H_hb.out k
      have hB1 := hB.1
      have hB2 := hB.2
      have hs := sumB_take_succ 14695981039346656037 l k (by rw [H_hN.out]; exact hlt)
      subst hA
      generalize l.getD k 0 = x at *
      generalize sumB 14695981039346656037 (l.take k) = D at *
      have H_hs := Lib.hid hs; clear hs; have H_hB := Lib.hid hB; clear hB
      go_wp2
      go_round
      case rel => exact ⟨k + 1, by omega, by go_num, by rw [H_hs.out]; rfl⟩
      case measure => simp [intOf]; omega
    · have ht : l.take k = l := List.take_of_length_le (by rw [H_hN.out]; omega)
      rw [ht]
      have H_ht := Lib.hid ht; clear ht
      go_wp2
      go_ret
      exact ⟨rfl, rfl⟩

set_option maxHeartbeats 1000000 in
theorem refOne_any (n : Int) (w : World) (h1 : -9223372036854775808 ≤ n) (h2 : n ≤ 9223372036854775807) :
    Calls Try.prog 24 #[.int .i64 n] w (OwnPost w.heap.size 5 .u8 (vb (zz n)) none w) := by
  obtain ⟨i0, hi, hz0, hz1, hz2⟩ := info_parts infoU8
  have hzz := zz_lt n h1 h2
  have hvl := vb_len (zz n) hzz
  have hzp : 0 ≤ n → 2 * n = (zz n : Int) := fun h => by simp only [zz, h, if_true]; omega
  have hzm : n < 0 → 2 * -(n + 1) + 1 = (zz n : Int) := fun h => by simp only [zz, show ¬ 0 ≤ n by omega, if_false]; omega
  generalize zz n = Z at *
  by_cases hs : n < 0
  all_goals
    have H_hvl := Lib.hid hvl; clear hvl; have H_hzp := Lib.hid hzp; clear hzp; have H_hzm := Lib.hid hzm; clear hzm
    go_enter Try.func24, Try.ntmps24
    go_wp2_with fail
    go_loopw [3, 4] (fun u b wr => ∃ (B : Option Addr) (d : Nat) (l2 : List Int) (U : Nat), b = .slice B l2.length d ∧ u = .int .u64 U ∧ OwnInts wr w.heap.size 5 .u8 B d l2 ∧ U < 18446744073709551616 ∧ l2 ++ vb U = vb Z ∧ w.grownBy wr none ∧ (blockOf B = none ∨ ∃ g, blockOf B = some g ∧ w.heap.size ≤ g)) (fun u _ _ => (intOf u).toNat)
    case atStart => exact ⟨none, 0, [], Z, rfl, val_int (by first | exact H_hzp.out (by omega) | exact H_hzm.out (by omega)), OwnInts.nil _ _ _ _, hzz, rfl, grown_refl _ _, .inl rfl⟩
    case round =>
      obtain ⟨B, d, l2, U, rfl, rfl, ho, hU, hv, hg, hB⟩ := hrel
      have hlen2 : l2.length ≤ 1000010 := by
        have := congrArg List.length hv; simp at this; have := H_hvl.out; omega
      have hgs := hg.size
      have hU2 : (U : Int) ≤ 18446744073709551615 := by omega
      have H_hU := Lib.hid hU; clear hU; have H_hzz := Lib.hid hzz; clear hzz; have H_h1 := Lib.hid h1; clear h1; have H_h2 := Lib.hid h2; clear h2
      by_cases hlt : 128 ≤ U
      · have H_ho := Lib.hid ho; clear ho; have H_hv := Lib.hid hv; clear hv; have H_hg := Lib.hid hg; clear hg; have H_hB := Lib.hid hB; clear hB
        go_wp2_with (at_builtin; refine wp_app_ints _ rfl (.tmp 18) (.tmp 23) _ rfl w.heap.size 5 i0 _ 1 Try.underlying23 hi hz0 hz1 hz2 rfl .u8 B d l2 rfl (H_ho.out.alloc _) (some ⟨wr.heap.size, 0, none⟩) 1 [(U : Int) % 128 + 128] rfl (ints_new1 _ _ _ _ _ rfl) ?_ ?_ ?_ ?_)
        · simp; omega
        · simp; omega
        · simp; omega
        intro B' d' w2 ho2 hg2 hB2
        have hgg : w.grownBy w2 none := grown_then (grown_alloc H_hg.out _) hg2 H_hB.out
        have hBB := block_then H_hB.out hB2 (by omega)
        have H_ho2 := Lib.hid ho2; clear ho2; have H_hg2 := Lib.hid hg2; clear hg2; have H_hB2 := Lib.hid hB2; clear hB2; have H_hgg := Lib.hid hgg; clear hgg; have H_hBB := Lib.hid hBB; clear hBB
        go_wp2_with fail
        go_roundw
        case rel =>
          refine ⟨B', d', l2 ++ [(U : Int) % 128 + 128], U / 128, by simp, by go_num, H_ho2.out, by have := H_hU.out; omega, ?_, H_hgg.out, H_hBB.out⟩
          rw [← H_hv.out, vb_big (show U > 127 by omega)]; simp
        case measure => simp [intOf]; omega
      · rw [vb_small (show ¬ U > 127 by omega)] at hv
        have H_ho := Lib.hid ho; clear ho; have H_hv := Lib.hid hv; clear hv; have H_hg := Lib.hid hg; clear hg; have H_hB := Lib.hid hB; clear hB
        go_wp2_with (at_builtin; refine wp_app_ints _ rfl (.tmp 27) (.tmp 30) _ rfl w.heap.size 5 i0 _ 1 Try.underlying23 hi hz0 hz1 hz2 rfl .u8 B d l2 rfl (H_ho.out.alloc _) (some ⟨wr.heap.size, 0, none⟩) 1 [(U : Int)] rfl (ints_new1 _ _ _ _ _ rfl) ?_ ?_ ?_ ?_)
        · simp; omega
        · simp; omega
        · simp; omega
        intro B' d' w2 ho2 hg2 hB2
        have hgg : w.grownBy w2 none := grown_then (grown_alloc H_hg.out _) hg2 H_hB.out
        have hBB := block_then H_hB.out hB2 (by omega)
        rw [H_hv.out] at ho2
        have hln := congrArg List.length H_hv.out
        simp only [List.length_append, List.length_cons, List.length_nil, Nat.zero_add] at hln
        have H_ho2 := Lib.hid ho2; clear ho2; have H_hg2 := Lib.hid hg2; clear hg2; have H_hB2 := Lib.hid hB2; clear hB2; have H_hgg := Lib.hid hgg; clear hgg; have H_hBB := Lib.hid hBB; clear hBB; have H_hln := Lib.hid hln; clear hln
        go_wp2_with fail
        go_ret
        exact ⟨B', d', ret_slice (by rw [H_hln.out]), H_ho2.out, H_hgg.out, H_hBB.out⟩

theorem refPut_no (A : Option Addr) (c n : Nat) (w : World) (h : 4000 < n) :
    Calls Try.prog 11 #[.slice A n c] w fun e w' => e = .returned (.tuple #[.slice none 0 0, .int .i64 2]) ∧ w = w' := by
  go_enter Try.func11, Try.ntmps11
  go_wp2_with fail
  go_ret2
  exact ⟨rfl, rfl⟩

set_option maxHeartbeats 1000000 in
theorem refPut_any (A : Option Addr) (c : Nat) (l : List Int) (w : World) (hl : IntsAt w A .i64 l) (hn : l.length ≤ 4000) (hb : ∀ x ∈ l, -9223372036854775808 ≤ x ∧ x ≤ 9223372036854775807) :
    Calls Try.prog 11 #[.slice A l.length c] w (OwnErr 5 .u8 (putB l) 0 w) := by
  obtain ⟨i0, hi, hz0, hz1, hz2⟩ := info_parts infoU8
  have hv0 := vb_len (zz l.length) (zz_lt _ (by omega) (by omega))
  have hbl : ∀ k, (bodyB (l.take k)).length ≤ 10 * l.length := fun k => by
    have h1 := bodyB_len (l.take k) fun x hx => hb x (List.mem_of_mem_take hx)
    have h2 : (l.take k).length ≤ l.length := List.length_take_le' _ _
    omega
  generalize hN : l.length = N at *
  have H_hl := Lib.hid hl; clear hl; have H_hb := Lib.hid hb; clear hb; have H_hN := Lib.hid hN; clear hN; have H_hv0 := Lib.hid hv0; clear hv0; have H_hbl := Lib.hid hbl; clear hbl
  go_enter Try.func11, Try.ntmps11
  go_wp2_with fail
  refine (refOne_any N w (by omega) (by omega)).mono ?_
  rintro e w1 ⟨B, d, rfl, ho, hg, hB⟩
  have hb1 : Below w.heap.size w w1 := below_of_grown_none hg
  have H_ho := Lib.hid ho; clear ho; have H_hg := Lib.hid hg; clear hg; have H_hB := Lib.hid hB; clear hB; have H_hb1 := Lib.hid hb1; clear hb1
  go_wp2_with fail
  go_loopw [4, 5] (fun b i wr => ∃ (k : Nat) (B : Option Addr) (d : Nat), k ≤ N ∧ i = .int .i64 k ∧ b = .slice B (vb (zz N) ++ bodyB (l.take k)).length d ∧ OwnInts wr w.heap.size 5 .u8 B d (vb (zz N) ++ bodyB (l.take k)) ∧ Below w.heap.size w wr) (fun _ i _ => N - (intOf i).toNat)
  case atStart => exact ⟨0, B, d, by omega, rfl, by simp [bodyB], by simpa [bodyB] using H_ho.out, H_hb1.out⟩
  case round =>
    obtain ⟨k, B, d, hk, rfl, rfl, ho, hbw⟩ := hrel
    have hbk := H_hbl.out k
    by_cases hlt : k < N
    · obtain ⟨b, off, hA, hbs, hc⟩ := (H_hl.out.below hbw) k (by rw [H_hN.out]; exact hlt)
      have hbd := int_bd H_hb.out k
      have hsz := hbw.size
      have hsn := bodyB_take_succ l k (by rw [H_hN.out]; exact hlt)
      have hlen : (vb (zz N) ++ bodyB (l.take k)).length ≤ 1000000 := by have := H_hv0.out; simp; omega
      generalize hX : vb (zz N) ++ bodyB (l.take k) = X at *
      generalize l.getD k 0 = x at *
      have hvx := vb_len (zz x) (zz_lt x hbd.1 hbd.2)
      subst hA
      have H_ho := Lib.hid ho; clear ho; have H_hbw := Lib.hid hbw; clear hbw; have H_hsn := Lib.hid hsn; clear hsn; have H_hbd := Lib.hid hbd; clear hbd; have H_hX := Lib.hid hX; clear hX; have H_hbk := Lib.hid hbk; clear hbk
      go_wp2_with fail
      refine (refOne_any x wr H_hbd.out.1 H_hbd.out.2).mono ?_
      rintro e w2 ⟨B2, d2, rfl, ho2, hg2, hB2⟩
      have hb2 := below_of_grown_none hg2
      have ho3 := H_ho.out.below hb2
      have hbw2 := H_hbw.out.trans (hb2.mono hsz)
      have hi2 := ho2.ints
      have hsz2 := hbw2.size
      have H_ho2 := Lib.hid ho2; clear ho2; have H_hg2 := Lib.hid hg2; clear hg2; have H_hB2 := Lib.hid hB2; clear hB2; have H_hb2 := Lib.hid hb2; clear hb2; have H_ho3 := Lib.hid ho3; clear ho3; have H_hbw2 := Lib.hid hbw2; clear hbw2; have H_hi2 := Lib.hid hi2; clear hi2
      go_wp2_with (at_builtin; refine wp_app_ints _ rfl (.tmp 18) (.tmp 23) _ rfl w.heap.size 5 i0 _ 1 Try.underlying23 hi hz0 hz1 hz2 rfl .u8 B d X rfl H_ho3.out B2 d2 (vb (zz x)) rfl H_hi2.out ?_ ?_ ?_ ?_)
      · omega
      · omega
      · omega
      intro B3 d3 w3 ho4 hg3 hB3
      have hbw3 := H_ho3.out.grow H_hbw2.out hg3
      have H_ho4 := Lib.hid ho4; clear ho4; have H_hg3 := Lib.hid hg3; clear hg3; have H_hB3 := Lib.hid hB3; clear hB3; have H_hbw3 := Lib.hid hbw3; clear hbw3
      go_wp2_with fail
      go_roundw
      case rel =>
        have e : vb (zz N) ++ bodyB (l.take (k + 1)) = X ++ vb (zz x) := by rw [H_hsn.out, ← List.append_assoc, H_hX.out]
        refine ⟨k + 1, B3, d3, by omega, by go_num, ?_, ?_, H_hbw3.out⟩
        · rw [e]; simp
        · rw [e]; exact H_ho4.out
      case measure => simp [intOf]; omega
    · have ht : l.take k = l := List.take_of_length_le (by rw [H_hN.out]; omega)
      rw [ht] at ho ⊢
      have H_ho := Lib.hid ho; clear ho; have H_hbw := Lib.hid hbw; clear hbw; have H_ht := Lib.hid ht; clear ht; have H_hbk := Lib.hid hbk; clear hbk
      go_wp2_with fail
      go_ret2
      refine ⟨B, d, ret_slice_err ?_, ?_, H_hbw.out⟩
      · rw [putB, H_hN.out]
      · rw [putB, H_hN.out]; exact H_ho.out

/-- the bytes of a number, the highest first -/
def be8 (d : Int) : List Int := (List.range 8).map fun i => d / 2 ^ (56 - 8 * i) % 256
theorem be8_take_succ (d : Int) (k : Nat) (h : k < 8) : (be8 d).take (k + 1) = (be8 d).take k ++ [d / 2 ^ (56 - 8 * k) % 256] := by
  have hl : k < (be8 d).length := by simpa [be8] using h
  rw [List.take_succ_eq_append_getElem hl]; simp [be8]
set_option maxHeartbeats 1000000 in
theorem refBytes_any (d : Int) (w : World) (h1 : 0 ≤ d) (h2 : d ≤ 18446744073709551615) :
    Calls Try.prog 26 #[.int .u64 d] w (OwnPost w.heap.size 5 .u8 (be8 d) none w) := by
  obtain ⟨i0, hi, hz0, hz1, hz2⟩ := info_parts infoU8
  go_enter Try.func26, Try.ntmps26
  go_wp2_with fail
  go_loopw [3, 4] (fun b i wr => ∃ (k : Nat) (B : Option Addr) (dd : Nat), k ≤ 8 ∧ i = .int .i64 k ∧ b = .slice B ((be8 d).take k).length dd ∧ OwnInts wr w.heap.size 5 .u8 B dd ((be8 d).take k) ∧ w.grownBy wr none ∧ (blockOf B = none ∨ ∃ g, blockOf B = some g ∧ w.heap.size ≤ g)) (fun _ i _ => 8 - (intOf i).toNat)
  case atStart => exact ⟨0, none, 0, by omega, rfl, rfl, OwnInts.nil _ _ _ _, grown_refl _ _, .inl rfl⟩
  case round =>
    obtain ⟨k, B, dd, hk, rfl, rfl, ho, hg, hB⟩ := hrel
    by_cases hlt : k < 8
    · have hgs := hg.size
      have hs := be8_take_succ d k hlt
      have hlen : ((be8 d).take k).length ≤ 8 := by
        have h8 : (be8 d).length = 8 := by simp [be8]
        have := List.length_take_le' k (be8 d); omega
      generalize (be8 d).take k = X at *
      have H_ho := Lib.hid ho; clear ho; have H_hg := Lib.hid hg; clear hg; have H_hB := Lib.hid hB; clear hB; have H_hs := Lib.hid hs; clear hs
      go_wp2_with (at_builtin; refine wp_app_ints _ rfl (.tmp 9) (.tmp 16) _ rfl w.heap.size 5 i0 _ 1 Try.underlying23 hi hz0 hz1 hz2 rfl .u8 B dd X rfl (H_ho.out.alloc _) (some ⟨wr.heap.size, 0, none⟩) 1 [d / 2 ^ (56 - 8 * k) % 256] rfl (ints_new1 _ _ _ _ _ rfl) ?_ ?_ ?_ ?_)
      · simp; omega
      · simp; omega
      · simp; omega
      intro B' d' w2 ho2 hg2 hB2
      have hgg : w.grownBy w2 none := grown_then (grown_alloc H_hg.out _) hg2 H_hB.out
      have hBB := block_then H_hB.out hB2 (by omega)
      have H_ho2 := Lib.hid ho2; clear ho2; have H_hg2 := Lib.hid hg2; clear hg2; have H_hB2 := Lib.hid hB2; clear hB2; have H_hgg := Lib.hid hgg; clear hgg; have H_hBB := Lib.hid hBB; clear hBB
      go_wp2_with fail
      go_roundw
      case rel =>
        refine ⟨k + 1, B', d', by omega, by go_num, ?_, ?_, H_hgg.out, H_hBB.out⟩
        · rw [H_hs.out]; simp
        · rw [H_hs.out]; exact H_ho2.out
      case measure => simp [intOf]; omega
    · have ht : (be8 d).take k = be8 d := List.take_of_length_le (by simp [be8]; omega)
      rw [ht] at ho ⊢
      have H_ho := Lib.hid ho; clear ho; have H_hg := Lib.hid hg; clear hg; have H_hB := Lib.hid hB; clear hB; have H_ht := Lib.hid ht; clear ht
      go_wp2_with fail
      go_ret
      exact ⟨B, dd, rfl, H_ho.out, H_hg.out, H_hB.out⟩
end Go.Proofs.Ytopdgjpoknndmaa

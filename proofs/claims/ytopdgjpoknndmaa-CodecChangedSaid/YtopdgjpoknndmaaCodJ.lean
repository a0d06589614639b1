/- Contracts of the reference of codec: Frame. -/
import Derived.Test.YtopdgjpoknndmaaCodI
namespace Go.Proofs.Ytopdgjpoknndmaa
set_option linter.unusedSimpArgs false
set_option linter.unusedVariables false
set_option maxRecDepth 100000
open Go.RowKit

theorem refFrame_no (A : Option Addr) (c n : Nat) (w : World) (h : 4000 < n) :
    Calls Try.prog 14 #[.slice A n c] w fun e w' => e = .returned (.tuple #[.slice none 0 0, .int .i64 2]) ∧ w = w' := by
  go_enter Try.func14, Try.ntmps14
  go_wp2_with fail
  refine (refPut_no A c n w h).mono ?_; rintro e w1 ⟨rfl, rfl⟩
  go_wp2_with fail
  go_ret2
  exact ⟨rfl, rfl⟩

set_option maxHeartbeats 2000000 in
theorem refFrame_any (A : Option Addr) (c : Nat) (l : List Int) (w : World) (hl : IntsAt w A .i64 l) (hn : l.length ≤ 4000) (hb : ∀ x ∈ l, -9223372036854775808 ≤ x ∧ x ≤ 9223372036854775807) :
    Calls Try.prog 14 #[.slice A l.length c] w (OwnErr 5 .u8 (frameB l) 0 w) := by
  obtain ⟨i0, hi, hz0, hz1, hz2⟩ := info_parts infoU8
  have hpl := putB_len l hn hb
  have hpb := putB_bytes l
  have hc := refPut_any A c l w hl hn hb
  have hfr : frameB l = (hdB (putB l).length ++ putB l) ++ be8 (sumB 14695981039346656037 (hdB (putB l).length ++ putB l)) := rfl
  generalize putB l = X at *
  have H_hl := Lib.hid hl; clear hl; have H_hb := Lib.hid hb; clear hb; have H_hpb := Lib.hid hpb; clear hpb; have H_hc := Lib.hid hc; clear hc; have H_hfr := Lib.hid hfr; clear hfr
  go_enter Try.func14, Try.ntmps14
  go_wp2_with fail
  refine (H_hc.out).mono ?_
  rintro e w1 ⟨B, d, rfl, ho, hb1⟩
  have hi1 := ho.ints
  have hs1 := hb1.size
  have hH : (X.length : Int) / 65536 :: (X.length : Int) / 256 % 256 :: (X.length : Int) % 256 :: X = hdB X.length ++ X := rfl
  have H_ho := Lib.hid ho; clear ho; have H_hi1 := Lib.hid hi1; clear hi1; have H_hb1 := Lib.hid hb1; clear hb1; have H_hH := Lib.hid hH; clear hH
  go_wp2_with (at_builtin; refine wp_app_ints _ rfl (.tmp 29) (.tmp 30) _ rfl w.heap.size 5 i0 _ 1 Try.underlying23 hi hz0 hz1 hz2 rfl .u8 (some ⟨w1.heap.size, 0, none⟩) 3 [(X.length : Int) / 65536, (X.length : Int) / 256 % 256, (X.length : Int) % 256] rfl (own_lit [(X.length : Int) / 65536, (X.length : Int) / 256 % 256, (X.length : Int) % 256] hs1 (by simp) _ rfl) B d X rfl (H_hi1.out.alloc _) ?_ ?_ ?_ ?_)
  · simp; omega
  · simp; omega
  · simp; omega
  intro B2 d2 w2 ho2 hg2 hB2
  have hb2 : Below w.heap.size w w2 := (own_lit [(X.length : Int) / 65536, (X.length : Int) / 256 % 256, (X.length : Int) % 256] hs1 (by simp) _ rfl).grow (H_hb1.out.alloc hs1 _) hg2
  rw [H_hH.out] at ho2
  have hlY : (hdB X.length ++ X).length = X.length + 1 + 1 + 1 := by simp [hdB]
  have hbY : ∀ x ∈ hdB X.length ++ X, 0 ≤ x ∧ x ≤ 255 := fun x hx => by
    rcases List.mem_append.1 hx with h | h
    · exact hdB_bytes _ (by omega) x h
    · exact H_hpb.out x h
  have hfr2 := H_hfr.out
  generalize hdB X.length ++ X = Y at *
  have hcs := refSum_any B2 d2 Y w2 ho2.ints (by rw [hlY]; omega) (bytes_getD hbY)
  rw [hlY] at hcs
  have hs2 := hb2.size
  have hDb := sumB_bd 14695981039346656037 (by omega) Y
  generalize hD : sumB 14695981039346656037 Y = D at *
  have hcb := refBytes_any D w2 hDb.1 hDb.2
  have H_ho2 := Lib.hid ho2; clear ho2; have H_hg2 := Lib.hid hg2; clear hg2; have H_hB2 := Lib.hid hB2; clear hB2; have H_hb2 := Lib.hid hb2; clear hb2; have H_hlY := Lib.hid hlY; clear hlY; have H_hbY := Lib.hid hbY; clear hbY; have H_hfr2 := Lib.hid hfr2; clear hfr2; have H_hcs := Lib.hid hcs; clear hcs; have H_hD := Lib.hid hD; clear hD; have H_hDb := Lib.hid hDb; clear hDb; have H_hcb := Lib.hid hcb; clear hcb
  go_wp2_with fail
  refine (H_hcs.out).mono ?_
  rintro e w3 ⟨rfl, rfl⟩
  go_wp2_with fail
  refine (H_hcb.out).mono ?_
  rintro e w3 ⟨B3, d3, rfl, ho3, hg3, hB3⟩
  have hb3 := below_of_grown_none hg3
  have hi3 := ho3.ints
  have ho3' := H_ho2.out.below hb3
  have hb3' : Below w.heap.size w w3 := H_hb2.out.trans (hb3.mono hs2)
  have hs3 := hb3'.size
  have hl8 : (be8 D).length = 8 := rfl
  have H_ho3 := Lib.hid ho3; clear ho3; have H_hg3 := Lib.hid hg3; clear hg3; have H_hB3 := Lib.hid hB3; clear hB3; have H_hb3 := Lib.hid hb3; clear hb3; have H_hi3 := Lib.hid hi3; clear hi3; have H_ho3' := Lib.hid ho3'; clear ho3'; have H_hb3' := Lib.hid hb3'; clear hb3'; have H_hl8 := Lib.hid hl8; clear hl8
  go_wp2_with (at_builtin; refine wp_app_at _ rfl (.tmp 32) (.tmp 35) _ rfl w.heap.size 5 i0 _ 1 Try.underlying23 hi hz0 hz1 hz2 rfl .u8 B2 d2 _ Y H_hlY.out rfl H_ho3'.out B3 d3 _ (be8 D) rfl rfl H_hi3.out ?_ ?_ ?_ ?_)
  · have := H_hl8.out; omega
  · have := H_hl8.out; omega
  · omega
  intro B4 d4 w4 ho4 hg4 hB4
  have hb4 : Below w.heap.size w w4 := (H_ho3'.out).grow H_hb3'.out hg4
  rw [← H_hfr2.out] at ho4
  have hlF : (frameB l).length = X.length + 1 + 1 + 1 + (be8 D).length := by rw [H_hfr2.out, List.length_append, H_hlY.out]
  have H_ho4 := Lib.hid ho4; clear ho4; have H_hg4 := Lib.hid hg4; clear hg4; have H_hB4 := Lib.hid hB4; clear hB4; have H_hb4 := Lib.hid hb4; clear hb4; have H_hlF := Lib.hid hlF; clear hlF
  go_wp2_with fail
  go_ret2
  exact ⟨B4, d4, ret_slice_err (by rw [H_hlF.out]), H_ho4.out, H_hb4.out⟩
end Go.Proofs.Ytopdgjpoknndmaa

/- The walk of CodecBack. -/
import Derived.Test.YtopdgjpoknndmaaCodH4
import Derived.Test.YtopdgjpoknndmaaOpn
namespace Go.Proofs.Ytopdgjpoknndmaa
set_option linter.unusedSimpArgs false
set_option linter.unusedVariables false
set_option maxRecDepth 100000
open Go.RowKit

theorem sameB_refl (l : List Int) : sameB l l = true := sameB_iff.2 rfl
set_option maxHeartbeats 2000000 in
theorem codecBack_walk (A : Option Addr) (c : Nat) (l : List Int) (B : Option Addr) (d : Nat) (b : List Int) (w : World) (hl : IntsAt w A .i64 l) (hlc : l.length ≤ c) (hcm : c ≤ maxLen) (hlw : ∀ n ∈ l, (Lit.int .i64 n).wf = true)
    (hb : IntsAt w B .u8 b) (hbc : b.length ≤ d) (hdm : d ≤ maxLen) (hbw : ∀ n ∈ b, (Lit.int .u8 n).wf = true) :
    Calls Try.prog 4 #[.slice A l.length c, .slice B b.length d] w fun e w' => e = .returned (.bool true) ∧ Below w.heap.size w w' := by
  have fl : Fit l := fun x hx => wf_i64 (hlw x hx)
  have fb : ∀ x ∈ b, 0 ≤ x ∧ x ≤ 255 := fun x hx => wf_u8 (hbw x hx)
  have hm1 : l.length ≤ maxLen := by omega
  have hm2 : b.length ≤ maxLen := by omega
  unfold maxLen at hm1 hm2
  have hh := head_any w
  have H_hl := Lib.hid hl; clear hl; have H_hlc := Lib.hid hlc; clear hlc; have H_hcm := Lib.hid hcm; clear hcm; have H_hlw := Lib.hid hlw; clear hlw; have H_hb := Lib.hid hb; clear hb; have H_hbc := Lib.hid hbc; clear hbc; have H_hdm := Lib.hid hdm; clear hdm; have H_hbw := Lib.hid hbw; clear hbw; have H_fl := Lib.hid fl; clear fl; have H_fb := Lib.hid fb; clear fb; have H_hh := Lib.hid hh; clear hh
  go_enter Try.func4, Try.ntmps4
  go_wp2_with fail
  refine H_hh.out.mono ?_
  rintro e w1 ⟨rfl, b1⟩
  have s1 := b1.size
  have l1 := H_hl.out.below b1
  have k1 := H_hb.out.below b1
  have H_b1 := Lib.hid b1; clear b1; have H_l1 := Lib.hid l1; clear l1; have H_k1 := Lib.hid k1; clear k1
  by_cases hg1 : 300 < l.length
  · go_wp2_with fail
    go_ret
    exact ⟨rfl, H_b1.out⟩
  by_cases hg2 : 3000 < b.length
  · go_wp2_with fail
    go_ret
    exact ⟨rfl, H_b1.out⟩
  have hp := codPut_any A c l w1 H_l1.out (by omega) H_fl.out
  have hpl := putB_len l (by omega) H_fl.out
  have hpb := putB_bytes l
  have hgp := getB_put l (by omega) H_fl.out
  unfold OwnErr at hp
  generalize putB l = X at *
  have H_hp := Lib.hid hp; clear hp; have H_hpb := Lib.hid hpb; clear hpb; have H_hgp := Lib.hid hgp; clear hgp
  go_wp2_with fail
  refine H_hp.out.mono ?_
  rintro e w2 ⟨X2, x2, rfl, o2, b2⟩
  have s2 := b2.size
  have l2 := H_l1.out.below b2
  have k2 := H_k1.out.below b2
  have bb2 := H_b1.out.trans (b2.mono s1)
  have hg := codGet_any X2 x2 X w2 o2.ints (by omega) o2.cap (bytes_getD H_hpb.out)
  have H_o2 := Lib.hid o2; clear o2; have H_b2 := Lib.hid b2; clear b2; have H_l2 := Lib.hid l2; clear l2; have H_k2 := Lib.hid k2; clear k2; have H_bb2 := Lib.hid bb2; clear bb2; have H_hg := Lib.hid hg; clear hg
  go_wp2_with fail
  refine H_hg.out.mono ?_
  rintro e w3 (⟨hn, _⟩ | ⟨l', hs, hq⟩)
  · rw [H_hgp.out] at hn; cases hn
  rw [H_hgp.out] at hs
  injection hs with hs
  subst hs
  obtain ⟨Y, y, rfl, o3, b3⟩ := hq
  have s3 := b3.size
  have l3 := H_l2.out.below b3
  have k3 := H_k2.out.below b3
  have bb3 := H_bb2.out.trans (b3.mono (by omega))
  have hsm := sameInts_any A Y c y l l w3 l3 o3.ints (by omega) (by omega)
  rw [sameB_refl] at hsm
  have H_o3 := Lib.hid o3; clear o3; have H_b3 := Lib.hid b3; clear b3; have H_l3 := Lib.hid l3; clear l3; have H_k3 := Lib.hid k3; clear k3; have H_bb3 := Lib.hid bb3; clear bb3; have H_hsm := Lib.hid hsm; clear hsm
  go_wp2_with fail
  refine H_hsm.out.mono ?_
  rintro e w4 ⟨rfl, q4, e4⟩
  have b4 : Below w3.heap.size w3 w4 := by rw [e4]; exact below_drewN (Below.refl _ _) _
  clear e4
  have s4 := b4.size
  have k4 := H_k3.out.below b4
  have bb4 := H_bb3.out.trans (b4.mono (by omega))
  have hg4 := codGet_any B d b w4 k4 (by omega) H_hbc.out (bytes_getD H_fb.out)
  have H_b4 := Lib.hid b4; clear b4; have H_k4 := Lib.hid k4; clear k4; have H_bb4 := Lib.hid bb4; clear bb4; have H_hg4 := Lib.hid hg4; clear hg4
  go_wp2_with fail
  refine H_hg4.out.mono ?_
  rintro e w5 (⟨hn, rfl, b5⟩ | ⟨l', hs, K, k, rfl, o5, b5⟩)
  · have bb5 := H_bb4.out.trans (b5.mono (by omega))
    have H_b5 := Lib.hid b5; clear b5; have H_bb5 := Lib.hid bb5; clear bb5; have H_hn := Lib.hid hn; clear hn
    go_wp2_with fail
    go_ret
    exact ⟨rfl, H_bb5.out⟩
  have bb5 := H_bb4.out.trans (b5.mono (by omega))
  have s5 := b5.size
  have k5 := H_k4.out.below b5
  obtain ⟨hb1, hb2, hb3⟩ := getB_back _ _ H_fb.out hs
  have hp5 := codPut_any K k l' w5 o5.ints hb2 hb3
  unfold OwnErr at hp5
  rw [hb1] at hp5
  have H_b5 := Lib.hid b5; clear b5; have H_bb5 := Lib.hid bb5; clear bb5; have H_k5 := Lib.hid k5; clear k5; have H_hs := Lib.hid hs; clear hs; have H_o5 := Lib.hid o5; clear o5; have H_hb1 := Lib.hid hb1; clear hb1; have H_hb2 := Lib.hid hb2; clear hb2; have H_hb3 := Lib.hid hb3; clear hb3; have H_hp5 := Lib.hid hp5; clear hp5
  go_wp2_with fail
  refine H_hp5.out.mono ?_
  rintro e w6 ⟨Z, z, rfl, o6, b6⟩
  have s6 := b6.size
  have k6 := H_k5.out.below b6
  have bb6 := H_bb5.out.trans (b6.mono (by omega))
  have hs6 := sameBytes_any B Z d z b b w6 k6 o6.ints H_fb.out H_fb.out
  rw [sameB_refl] at hs6
  have H_o6 := Lib.hid o6; clear o6; have H_b6 := Lib.hid b6; clear b6; have H_k6 := Lib.hid k6; clear k6; have H_bb6 := Lib.hid bb6; clear bb6; have H_hs6 := Lib.hid hs6; clear hs6
  go_wp2_with fail
  refine H_hs6.out.mono ?_
  rintro e w7 ⟨rfl, rfl⟩
  go_wp2_with fail
  go_ret
  exact ⟨rfl, H_bb6.out⟩
end Go.Proofs.Ytopdgjpoknndmaa

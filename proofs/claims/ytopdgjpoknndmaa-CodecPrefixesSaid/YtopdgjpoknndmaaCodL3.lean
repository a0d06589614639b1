/- The walk of CodecPrefixes. -/
import Derived.Test.YtopdgjpoknndmaaCodL1
namespace Go.Proofs.Ytopdgjpoknndmaa
set_option linter.unusedSimpArgs false
set_option linter.unusedVariables false
set_option maxRecDepth 100000
open Go.RowKit

set_option maxHeartbeats 2000000 in
theorem codecPrefixes_walk (A : Option Addr) (c : Nat) (l : List Int) (B : Option Addr) (d : Nat) (b : List Int) (less : Int) (w : World) (hl : IntsAt w A .i64 l) (hlc : l.length ≤ c) (hcm : c ≤ maxLen) (hlw : ∀ n ∈ l, (Lit.int .i64 n).wf = true)
    (hb : IntsAt w B .u8 b) (hbc : b.length ≤ d) (hdm : d ≤ maxLen) (hbw : ∀ n ∈ b, (Lit.int .u8 n).wf = true) (hless : (Lit.int .u16 less).wf = true) :
    Calls Try.prog 8 #[.slice A l.length c, .slice B b.length d, .int .u16 less] w fun e w' => e = .returned (.bool true) ∧ Below w.heap.size w w' := by
  obtain ⟨i0, hi, hz0, hz1, hz2⟩ := info_parts infoU8
  have fl : Fit l := fun x hx => wf_i64 (hlw x hx)
  have fb : ∀ x ∈ b, 0 ≤ x ∧ x ≤ 255 := fun x hx => wf_u8 (hbw x hx)
  have hle := wf_u16 hless
  have hm1 : l.length ≤ maxLen := by omega
  have hm2 : b.length ≤ maxLen := by omega
  unfold maxLen at hm1 hm2
  have hh := head_any w
  have H_hl := Lib.hid hl; clear hl; have H_hlc := Lib.hid hlc; clear hlc; have H_hcm := Lib.hid hcm; clear hcm; have H_hlw := Lib.hid hlw; clear hlw; have H_hb := Lib.hid hb; clear hb; have H_hbc := Lib.hid hbc; clear hbc; have H_hdm := Lib.hid hdm; clear hdm; have H_hbw := Lib.hid hbw; clear hbw; have H_fl := Lib.hid fl; clear fl; have H_fb := Lib.hid fb; clear fb; have H_hh := Lib.hid hh; clear hh; have H_hless := Lib.hid hless; clear hless
  go_enter Try.func8, Try.ntmps8
  go_wp2_with fail
  refine H_hh.out.mono ?_
  rintro e w1 ⟨rfl, b1⟩
  have s1 := b1.size
  have l1 := H_hl.out.below b1
  have k1 := H_hb.out.below b1
  have H_b1 := Lib.hid b1; clear b1; have H_l1 := Lib.hid l1; clear l1; have H_k1 := Lib.hid k1; clear k1
  by_cases hg1 : 300 < l.length
  · go_wp2_with fail
    go_ret
    exact ⟨rfl, H_b1.out⟩
  by_cases hg2 : b.length = 0
  · have hg2' : ((b.length : Int) == 0) = true := by simp [hg2]
    go_wp2_with fail
    go_ret
    exact ⟨rfl, H_b1.out⟩
  have hg2' : ((b.length : Int) == 0) = false := by rw [beq_eq_false_iff_ne]; omega
  by_cases hg3 : 300 < b.length
  · go_wp2_with fail
    go_ret
    exact ⟨rfl, H_b1.out⟩
  have hp := codPut_any A c l w1 H_l1.out (by omega) H_fl.out
  have hpl := putB_len l (by omega) H_fl.out
  have hpb := putB_bytes l
  have hpos : 1 ≤ (putB l).length := by
    have : 1 ≤ (vb (zz l.length)).length := by unfold vb; split <;> simp
    simp [putB]; omega
  have hmore := getB_more l b (by omega) H_fl.out (by intro h; exact hg2 (by simp [h]))
  have hlse := fun j => getB_less l j (by omega) H_fl.out
  unfold OwnErr at hp
  generalize putB l = X at *
  have hX0 : ((X.length : Int) == 0) = false := by rw [beq_eq_false_iff_ne]; omega
  have H_hp := Lib.hid hp; clear hp; have H_hpb := Lib.hid hpb; clear hpb; have H_hmore := Lib.hid hmore; clear hmore; have H_hlse := Lib.hid hlse; clear hlse
  go_wp2_with fail
  refine H_hp.out.mono ?_
  rintro e w2 ⟨X2, x2, rfl, o2, b2⟩
  have s2 := b2.size
  have k2 := H_k1.out.below b2
  have bb2 := H_b1.out.trans (b2.mono s1)
  have oi2 := o2.ints
  have oc2 := o2.cap
  have H_o2 := Lib.hid o2; clear o2; have H_b2 := Lib.hid b2; clear b2; have H_k2 := Lib.hid k2; clear k2; have H_bb2 := Lib.hid bb2; clear bb2; have H_oi2 := Lib.hid oi2; clear oi2
  go_wp2_with (at_builtin; refine wp_app_at _ rfl (.tmp 42) (.tmp 43) _ rfl w2.heap.size 5 i0 _ 1 Try.underlying23 hi hz0 hz1 hz2 rfl .u8 (some ⟨w2.heap.size, 0, none⟩) 0 0 [] rfl rfl (own_lit (w := w2) [] (Nat.le_refl _) (by simp) _ rfl) X2 x2 X.length X rfl rfl (H_oi2.out.alloc _) (by omega) (by omega) (by simp) ?_)
  intro X3 x3 w3 ho3 hg3 hB3
  change OwnInts w3 _ _ _ _ _ X at ho3
  have b3 : Below w2.heap.size w2 w3 := (own_lit (w := w2) (k := .u8) [] (Nat.le_refl _) (by simp) _ rfl).grow ((Below.refl _ _).alloc (Nat.le_refl _) _) hg3
  have s3 := b3.size
  have k3 := H_k2.out.below b3
  have oi3 := H_oi2.out.below b3
  have H_ho3 := Lib.hid ho3; clear ho3; have H_hg3 := Lib.hid hg3; clear hg3; have H_hB3 := Lib.hid hB3; clear hB3; have H_b3 := Lib.hid b3; clear b3; have H_k3 := Lib.hid k3; clear k3; have H_oi3 := Lib.hid oi3; clear oi3
  go_wp2_with (at_builtin; refine wp_app_at _ rfl (.tmp 44) (.tmp 45) _ rfl w2.heap.size 5 i0 _ 1 Try.underlying23 hi hz0 hz1 hz2 rfl .u8 X3 x3 X.length X rfl rfl H_ho3.out B d b.length b rfl rfl H_k3.out (by omega) (by omega) (by omega) ?_)
  intro X4 x4 w4 ho4 hg4 hB4
  have b4 : Below w2.heap.size w2 w4 := H_ho3.out.grow H_b3.out hg4
  have s4 := b4.size
  have bb4 := H_bb2.out.trans (b4.mono (by omega))
  have oi4 := H_oi2.out.below b4
  have hc4 := ho4.cap
  rw [List.length_append] at hc4
  have hq4 := codGet_at X4 x4 (X.length + b.length) (X ++ b) (by simp) w4 ho4.ints (by omega) hc4 (bytes_getD fun x hx => by
    rcases List.mem_append.1 hx with h | h
    · exact H_hpb.out x h
    · exact H_fb.out x h)
  have H_ho4 := Lib.hid ho4; clear ho4; have H_hg4 := Lib.hid hg4; clear hg4; have H_hB4 := Lib.hid hB4; clear hB4; have H_b4 := Lib.hid b4; clear b4; have H_bb4 := Lib.hid bb4; clear bb4; have H_oi4 := Lib.hid oi4; clear oi4; have H_hq4 := Lib.hid hq4; clear hq4
  go_wp2_with fail
  refine H_hq4.out.mono ?_
  rintro e w5 (⟨_, rfl, b5⟩ | ⟨l', hs, _⟩)
  rotate_left
  · rw [H_hmore.out] at hs; cases hs
  have bb5 := H_bb4.out.trans (b5.mono (by omega))
  have s5 := b5.size
  have oi5 := H_oi4.out.below b5
  obtain ⟨J, hJ⟩ : ∃ J : Nat, (J : Int) = less % (X.length : Int) := ⟨(less % (X.length : Int)).toNat, Int.toNat_of_nonneg (Int.emod_nonneg _ (by omega))⟩
  have hJ2 : J < X.length := by have := Int.emod_lt_of_pos less (b := (X.length : Int)) (by omega); omega
  have hq5 := codGet_at X2 x2 (less % (X.length : Int)).toNat (X.take J) (by simp; omega) w5 (oi5.take J) (by omega) (by omega) (bytes_getD fun x hx => H_hpb.out x (List.mem_of_mem_take hx))
  have hno := H_hlse.out J hJ2
  have H_b5 := Lib.hid b5; clear b5; have H_bb5 := Lib.hid bb5; clear bb5; have H_oi5 := Lib.hid oi5; clear oi5; have H_hq5 := Lib.hid hq5; clear hq5; have H_hno := Lib.hid hno; clear hno
  go_wp2_with fail
  refine H_hq5.out.mono ?_
  rintro e w6 (⟨_, rfl, b6⟩ | ⟨l', hs, _⟩)
  rotate_left
  · rw [H_hno.out] at hs; cases hs
  have bb6 := H_bb5.out.trans (b6.mono (by omega))
  have H_b6 := Lib.hid b6; clear b6; have H_bb6 := Lib.hid bb6; clear bb6
  go_wp2_with fail
  go_ret
  exact ⟨rfl, H_bb6.out⟩
end Go.Proofs.Ytopdgjpoknndmaa

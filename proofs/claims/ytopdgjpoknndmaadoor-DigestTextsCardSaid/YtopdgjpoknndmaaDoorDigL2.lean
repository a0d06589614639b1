/- The walks of DigestOneByte and DigestBehind. -/
import Derived.Test.YtopdgjpoknndmaaDoorDigL1
import Derived.Test.YtopdgjpoknndmaaDoorDigQ
namespace Go.Proofs.YtopdgjpoknndmaaDoor
set_option linter.unusedSimpArgs false
set_option linter.unusedVariables false
set_option maxRecDepth 100000
open Go.RowKit

set_option maxHeartbeats 4000000 in
theorem digestOneByte_walk (A : Option Addr) (c : Nat) (l : List Int) (at_ by_ : Int) (w : World)
    (hl : IntsAt w A .u8 l) (hlc : l.length ≤ c) (hcm : c ≤ maxLen) (hlw : ∀ n ∈ l, (Lit.int .u8 n).wf = true) (hat_ : (Lit.int .u16 at_).wf = true) (hby_ : (Lit.int .u8 by_).wf = true) (ht : Tab w) :
    Calls Tryd.prog 4 #[.slice A l.length c, .int .u16 at_, .int .u8 by_] w fun e w' => e = .returned (.bool true) ∧ Below w.heap.size w w' := by
  obtain ⟨i0, hi, hz0, hz1, hz2⟩ := info_parts infoU8
  have ha := wf_u16 hat_
  have hb := wf_u8 hby_
  have ha0 := ha.1; have ha1 := ha.2; have hb0 := hb.1; have hb1 := hb.2
  unfold maxLen at hcm
  have q1 := head_any w ht
  have H_hl := Lib.hid hl; clear hl; have H_hlw := Lib.hid hlw; clear hlw; have H_hat_ := Lib.hid hat_; clear hat_; have H_hby_ := Lib.hid hby_; clear hby_; have H_ht := Lib.hid ht; clear ht; have H_q1 := Lib.hid q1; clear q1; have H_ha := Lib.hid ha; clear ha; have H_hb := Lib.hid hb; clear hb
  go_enter Tryd.func4, Tryd.ntmps4
  go_wp2_with fail
  refine H_q1.out.mono ?_
  rintro e w1 ⟨rfl, b1⟩
  have s1 := b1.size
  have l1 := H_hl.out.below b1
  have cb := bytes_of H_hlw.out
  by_cases g0 : l.length = 0
  · have g0' : ((l.length : Int) == 0) = true := by simp [g0]
    have H_b1 := Lib.hid b1; clear b1; have H_l1 := Lib.hid l1; clear l1; have H_cb := Lib.hid cb; clear cb; have H_g0 := Lib.hid g0; clear g0
    go_wp2_with fail
    go_ret
    exact ⟨rfl, H_b1.out⟩
  have g0' : ((l.length : Int) == 0) = false := by rw [beq_eq_false_iff_ne]; omega
  by_cases g1 : (500 : Int) < (l.length : Int)
  · have H_b1 := Lib.hid b1; clear b1; have H_l1 := Lib.hid l1; clear l1; have H_cb := Lib.hid cb; clear cb; have H_g0 := Lib.hid g0; clear g0
    go_wp2_with fail
    go_ret
    exact ⟨rfl, H_b1.out⟩
  have g1' : decide ((500 : Int) < (l.length : Int)) = false := by simpa using g1
  obtain ⟨p, hp⟩ : ∃ p : Nat, at_ % (l.length : Int) = p := ⟨(at_ % (l.length : Int)).toNat, (Int.toNat_of_nonneg (Int.emod_nonneg _ (by omega))).symm⟩
  have hpl : p < l.length := by have := Int.emod_lt_of_pos at_ (b := (l.length : Int)) (by omega); omega
  have hlaw := sum_onebyte (b := by_) cb hpl H_hb.out
  have hx := xor8z (bytes_getD cb p) H_hb.out
  have i1 : (0 : Int) ≤ (p : Int) := by omega
  have i2 : (p : Int) < (l.length : Int) := by omega
  have q2 := fun W (hW : IntsAt W A .u8 l) => digSum_val A c l.length l rfl _ rfl W hW (by omega) cb
  have hsb : ∀ v ∈ l.set p (bits .xor .u8 (l.getD p 0) by_), 0 ≤ v ∧ v ≤ 255 := fun v hv => by
    rcases List.mem_or_eq_of_mem_set hv with h | h
    · exact cb v h
    · rw [h]; exact ⟨hx.1, hx.2.1⟩
  have q3 := fun W B d (hW : IntsAt W B .u8 (l.set p (bits .xor .u8 (l.getD p 0) by_))) => digSum_val B d l.length (l.set p (bits .xor .u8 (l.getD p 0) by_)) (by simp) _ rfl W hW (by omega) hsb
  generalize hS : sumB 14695981039346656037 l = S at *
  generalize hS2 : sumB 14695981039346656037 (l.set p (bits .xor .u8 (l.getD p 0) by_)) = S2 at *
  have hz : (by_ == 0) = (by_ == 0) := rfl
  have H_b1 := Lib.hid b1; clear b1; have H_l1 := Lib.hid l1; clear l1; have H_cb := Lib.hid cb; clear cb; have H_hlaw := Lib.hid hlaw; clear hlaw; have H_hx := Lib.hid hx; clear hx; have H_q2 := Lib.hid q2; clear q2; have H_hsb := Lib.hid hsb; clear hsb; have H_q3 := Lib.hid q3; clear q3; have H_hS := Lib.hid hS; clear hS; have H_hS2 := Lib.hid hS2; clear hS2; have H_g0 := Lib.hid g0; clear g0; have H_hz := Lib.hid hz; clear hz
  go_wp2_with (at_builtin; refine wp_app_at _ rfl (.tmp 19) (.tmp 20) _ rfl w1.heap.size 5 i0 _ 1 Tryd.underlying22 hi hz0 hz1 hz2 rfl .u8 (some ⟨w1.heap.size, 0, none⟩) 0 0 [] rfl rfl (own_lit (w := w1) [] (Nat.le_refl _) (by simp) _ rfl) A c l.length l rfl rfl (H_l1.out.alloc _) (by omega) (by omega) (by simp) ?_)
  intro X x w2 ho2 hg2 hB2
  change OwnInts w2 _ _ _ _ _ l at ho2
  have b2 : Below w1.heap.size w1 w2 := (own_lit (w := w1) (k := .u8) [] (Nat.le_refl _) (by simp) _ rfl).grow ((Below.refl _ _).alloc (Nat.le_refl _) _) hg2
  have s2 := b2.size
  obtain ⟨g, rfl, hg1, hgl, hfz⟩ := ho2.block (by omega)
  obtain ⟨g', off', eg, _, hc⟩ := ho2.ints p hpl
  injection eg with eg
  injection eg with eg1 eg2
  subst eg1 eg2
  have hst := ho2.ints.set_at (p := p) hpl (bits .xor .u8 (l.getD p 0) by_)
  rw [Nat.zero_add] at hc hst
  have hf3 := hfz p
  have b3 : Below w1.heap.size w1 (w2.setCell ⟨g, p, none⟩ (.int .u8 (bits .xor .u8 (l.getD p 0) by_))) := b2.setCell hg1 _
  have l3 := H_l1.out.below b3
  have q4 := H_q2.out _ l3
  have hxl := bytes_getD H_cb.out p
  have hx0 := hxl.1; have hx1 := hxl.2
  have q3' := fun W hW => H_q3.out W (some ⟨g, 0, none⟩) x hW
  generalize l.getD p 0 = v at *
  have hq : (S == S2) = (by_ == 0) := H_hlaw.out
  generalize hbz : (by_ == 0) = BZ at *
  have hbb : (BZ == BZ) = true := by simp
  have H_ho2 := Lib.hid ho2; clear ho2; have H_hg2 := Lib.hid hg2; clear hg2; have H_hB2 := Lib.hid hB2; clear hB2; have H_b2 := Lib.hid b2; clear b2; have H_hst := Lib.hid hst; clear hst; have H_b3 := Lib.hid b3; clear b3; have H_l3 := Lib.hid l3; clear l3; have H_q4 := Lib.hid q4; clear q4; have H_hxl := Lib.hid hxl; clear hxl; have H_q3' := Lib.hid q3'; clear q3'; have H_H_q3 := Lib.hid H_q3; clear H_q3; have H_hfz := Lib.hid hfz; clear hfz
  go_wp2_with fail
  refine H_q4.out.mono ?_
  rintro e w4 ⟨rfl, b4⟩
  have s4 := b4.size
  rw [World.size_setCell] at s4
  have bb4 := H_b1.out.trans ((H_b3.out.trans (b4.mono (by simp; omega))).mono s1)
  have q5 := H_q3'.out w4 (H_hst.out.below b4)
  have H_b4 := Lib.hid b4; clear b4; have H_bb4 := Lib.hid bb4; clear bb4; have H_q5 := Lib.hid q5; clear q5
  go_wp2_with fail
  refine H_q5.out.mono ?_
  rintro e w5 ⟨rfl, b5⟩
  have bb5 := H_bb4.out.trans (b5.mono (by omega))
  have H_b5 := Lib.hid b5; clear b5; have H_bb5 := Lib.hid bb5; clear bb5
  go_wp2_with fail
  go_ret
  exact ⟨rfl, H_bb5.out⟩

set_option maxHeartbeats 4000000 in
theorem digestBehind_walk (A : Option Addr) (c : Nat) (l : List Int) (B : Option Addr) (cB : Nat) (m : List Int) (C : Option Addr) (cC : Nat) (n : List Int) (w : World)
    (hl : IntsAt w A .u8 l) (hlc : l.length ≤ c) (hcm : c ≤ maxLen) (hlw : ∀ n ∈ l, (Lit.int .u8 n).wf = true)
    (hm : IntsAt w B .u8 m) (hmc : m.length ≤ cB) (hcm2 : cB ≤ maxLen) (hmw : ∀ n ∈ m, (Lit.int .u8 n).wf = true)
    (hn : IntsAt w C .u8 n) (hnc : n.length ≤ cC) (hcm3 : cC ≤ maxLen) (hnw : ∀ x ∈ n, (Lit.int .u8 x).wf = true) (ht : Tab w) :
    Calls Tryd.prog 5 #[.slice A l.length c, .slice B m.length cB, .slice C n.length cC] w fun e w' => e = .returned (.bool true) ∧ Below w.heap.size w w' := by
  obtain ⟨i0, hi, hz0, hz1, hz2⟩ := info_parts infoU8
  unfold maxLen at hcm hcm2 hcm3
  have q1 := head_any w ht
  have H_hl := Lib.hid hl; clear hl; have H_hlw := Lib.hid hlw; clear hlw; have H_hm := Lib.hid hm; clear hm; have H_hmw := Lib.hid hmw; clear hmw; have H_hn := Lib.hid hn; clear hn; have H_hnw := Lib.hid hnw; clear hnw; have H_ht := Lib.hid ht; clear ht; have H_q1 := Lib.hid q1; clear q1
  go_enter Tryd.func5, Tryd.ntmps5
  go_wp2_with fail
  refine H_q1.out.mono ?_
  rintro e w1 ⟨rfl, b1⟩
  have s1 := b1.size
  have l1 := H_hl.out.below b1
  have m1 := H_hm.out.below b1
  have n1 := H_hn.out.below b1
  have cl := bytes_of H_hlw.out
  have cm := bytes_of H_hmw.out
  have cn := bytes_of H_hnw.out
  by_cases g1 : (200 : Int) < (l.length : Int)
  · have H_b1 := Lib.hid b1; clear b1; have H_l1 := Lib.hid l1; clear l1; have H_m1 := Lib.hid m1; clear m1; have H_n1 := Lib.hid n1; clear n1; have H_cl := Lib.hid cl; clear cl; have H_cm := Lib.hid cm; clear cm; have H_cn := Lib.hid cn; clear cn
    go_wp2_with fail
    go_ret
    exact ⟨rfl, H_b1.out⟩
  have g1' : decide ((200 : Int) < (l.length : Int)) = false := by simpa using g1
  by_cases g2 : (200 : Int) < (m.length : Int)
  · have H_b1 := Lib.hid b1; clear b1; have H_l1 := Lib.hid l1; clear l1; have H_m1 := Lib.hid m1; clear m1; have H_n1 := Lib.hid n1; clear n1; have H_cl := Lib.hid cl; clear cl; have H_cm := Lib.hid cm; clear cm; have H_cn := Lib.hid cn; clear cn
    go_wp2_with fail
    go_ret
    exact ⟨rfl, H_b1.out⟩
  have g2' : decide ((200 : Int) < (m.length : Int)) = false := by simpa using g2
  by_cases g3 : (200 : Int) < (n.length : Int)
  · have H_b1 := Lib.hid b1; clear b1; have H_l1 := Lib.hid l1; clear l1; have H_m1 := Lib.hid m1; clear m1; have H_n1 := Lib.hid n1; clear n1; have H_cl := Lib.hid cl; clear cl; have H_cm := Lib.hid cm; clear cm; have H_cn := Lib.hid cn; clear cn
    go_wp2_with fail
    go_ret
    exact ⟨rfl, H_b1.out⟩
  have g3' : decide ((200 : Int) < (n.length : Int)) = false := by simpa using g3
  have hlaw := sum_behind (a := l) (b := m) cn
  have app : ∀ {a b : List Int}, (∀ x ∈ a, 0 ≤ x ∧ x ≤ 255) → (∀ x ∈ b, 0 ≤ x ∧ x ≤ 255) → ∀ x ∈ a ++ b, 0 ≤ x ∧ x ≤ 255 := fun h1 h2 x hx => (List.mem_append.1 hx).elim (h1 x) (h2 x)
  have q2 := fun W (hW : IntsAt W A .u8 l) => digSum_val A c l.length l rfl _ rfl W hW (by omega) cl
  have q3 := fun W (hW : IntsAt W B .u8 m) => digSum_val B cB m.length m rfl _ rfl W hW (by omega) cm
  have q4 := fun W X x (hW : IntsAt W X .u8 (l ++ n)) => digSum_val X x (l.length + n.length) (l ++ n) (by simp) _ rfl W hW (by omega) (app cl cn)
  have q5 := fun W X x (hW : IntsAt W X .u8 (m ++ n)) => digSum_val X x (m.length + n.length) (m ++ n) (by simp) _ rfl W hW (by omega) (app cm cn)
  generalize hS1 : sumB 14695981039346656037 l = S1 at *
  generalize hS2 : sumB 14695981039346656037 m = S2 at *
  generalize hS3 : sumB 14695981039346656037 (l ++ n) = S3 at *
  generalize hS4 : sumB 14695981039346656037 (m ++ n) = S4 at *
  generalize hZ : (S3 == S4) = Z at *
  have hbb : (Z == Z) = true := by simp
  clear app
  have H_b1 := Lib.hid b1; clear b1; have H_l1 := Lib.hid l1; clear l1; have H_m1 := Lib.hid m1; clear m1; have H_n1 := Lib.hid n1; clear n1; have H_cl := Lib.hid cl; clear cl; have H_cm := Lib.hid cm; clear cm; have H_cn := Lib.hid cn; clear cn; have H_q2 := Lib.hid q2; clear q2; have H_q3 := Lib.hid q3; clear q3; have H_q4 := Lib.hid q4; clear q4; have H_q5 := Lib.hid q5; clear q5; have H_hS1 := Lib.hid hS1; clear hS1; have H_hS2 := Lib.hid hS2; clear hS2; have H_hS3 := Lib.hid hS3; clear hS3; have H_hS4 := Lib.hid hS4; clear hS4
  go_wp2_with (at_builtin; refine wp_app_at _ rfl (.tmp 25) (.tmp 26) _ rfl w1.heap.size 5 i0 _ 1 Tryd.underlying22 hi hz0 hz1 hz2 rfl .u8 (some ⟨w1.heap.size, 0, none⟩) 0 0 [] rfl rfl (own_lit (w := w1) [] (Nat.le_refl _) (by simp) _ rfl) A c l.length l rfl rfl (H_l1.out.alloc _) (by omega) (by omega) (by simp) ?_)
  intro X2 x2 w2 ho2 hg2 hB2
  have b2 : Below w1.heap.size w1 w2 := (own_lit (w := w1) (k := .u8) [] (Nat.le_refl _) (by simp) _ rfl).grow ((Below.refl _ _).alloc (Nat.le_refl _) _) hg2
  have s2 := b2.size
  have n2 := H_n1.out.below b2
  have H_ho2 := Lib.hid ho2; clear ho2; have H_hg2 := Lib.hid hg2; clear hg2; have H_hB2 := Lib.hid hB2; clear hB2; have H_b2 := Lib.hid b2; clear b2; have H_n2 := Lib.hid n2; clear n2
  go_wp2_with (at_builtin; refine wp_app_at _ rfl (.tmp 27) (.tmp 28) _ rfl w1.heap.size 5 i0 _ 1 Tryd.underlying22 hi hz0 hz1 hz2 rfl .u8 X2 x2 l.length l rfl rfl H_ho2.out C cC n.length n rfl rfl H_n2.out (by omega) (by omega) (by omega) ?_)
  intro X3 x3 w3 ho3 hg3 hB3
  have b3 := H_ho2.out.grow H_b2.out hg3
  have s3 := b3.size
  have m3 := H_m1.out.below b3
  have n3 := H_n1.out.below b3
  have H_ho3 := Lib.hid ho3; clear ho3; have H_hg3 := Lib.hid hg3; clear hg3; have H_hB3 := Lib.hid hB3; clear hB3; have H_b3 := Lib.hid b3; clear b3; have H_m3 := Lib.hid m3; clear m3; have H_n3 := Lib.hid n3; clear n3
  go_wp2_with (at_builtin; refine wp_app_at _ rfl (.tmp 30) (.tmp 31) _ rfl w3.heap.size 5 i0 _ 1 Tryd.underlying22 hi hz0 hz1 hz2 rfl .u8 (some ⟨w3.heap.size, 0, none⟩) 0 0 [] rfl rfl (own_lit (w := w3) [] (Nat.le_refl _) (by simp) _ rfl) B cB m.length m rfl rfl (H_m3.out.alloc _) (by omega) (by omega) (by simp) ?_)
  intro X4 x4 w4 ho4 hg4 hB4
  have b4 : Below w3.heap.size w3 w4 := (own_lit (w := w3) (k := .u8) [] (Nat.le_refl _) (by simp) _ rfl).grow ((Below.refl _ _).alloc (Nat.le_refl _) _) hg4
  have s4 := b4.size
  have n4 := H_n3.out.below b4
  have H_ho4 := Lib.hid ho4; clear ho4; have H_hg4 := Lib.hid hg4; clear hg4; have H_hB4 := Lib.hid hB4; clear hB4; have H_b4 := Lib.hid b4; clear b4; have H_n4 := Lib.hid n4; clear n4
  go_wp2_with (at_builtin; refine wp_app_at _ rfl (.tmp 32) (.tmp 33) _ rfl w3.heap.size 5 i0 _ 1 Tryd.underlying22 hi hz0 hz1 hz2 rfl .u8 X4 x4 m.length m rfl rfl H_ho4.out C cC n.length n rfl rfl H_n4.out (by omega) (by omega) (by omega) ?_)
  intro X5 x5 w5 ho5 hg5 hB5
  have b5 := H_ho4.out.grow H_b4.out hg5
  have s5 := b5.size
  have ho5' := H_ho3.out.below b5
  have bb5 := H_b3.out.trans (b5.mono s3)
  have q6 := H_q2.out w5 (H_l1.out.below bb5)
  have m5 := H_m1.out.below bb5
  have bw5 := H_b1.out.trans (bb5.mono s1)
  have H_ho5 := Lib.hid ho5; clear ho5; have H_hg5 := Lib.hid hg5; clear hg5; have H_hB5 := Lib.hid hB5; clear hB5; have H_b5 := Lib.hid b5; clear b5; have H_ho5' := Lib.hid ho5'; clear ho5'; have H_bb5 := Lib.hid bb5; clear bb5; have H_q6 := Lib.hid q6; clear q6; have H_m5 := Lib.hid m5; clear m5; have H_bw5 := Lib.hid bw5; clear bw5
  go_wp2_with fail
  refine H_q6.out.mono ?_
  rintro e w6 ⟨rfl, b6⟩
  have s6 := b6.size
  have q7 := H_q3.out w6 (H_m5.out.below b6)
  have o6 := H_ho5'.out.below b6
  have p6 := H_ho5.out.below b6
  have bw6 := H_bw5.out.trans (b6.mono (by omega))
  have H_b6 := Lib.hid b6; clear b6; have H_q7 := Lib.hid q7; clear q7; have H_o6 := Lib.hid o6; clear o6; have H_p6 := Lib.hid p6; clear p6; have H_bw6 := Lib.hid bw6; clear bw6
  go_wp2_with fail
  refine H_q7.out.mono ?_
  rintro e w7 ⟨rfl, b7⟩
  have s7 := b7.size
  have o7 := H_o6.out.below b7
  have p7 := H_p6.out.below b7
  have q8 := H_q4.out w7 X3 x3 o7.ints
  have bw7 := H_bw6.out.trans (b7.mono (by omega))
  have H_b7 := Lib.hid b7; clear b7; have H_q8 := Lib.hid q8; clear q8; have H_o7 := Lib.hid o7; clear o7; have H_p7 := Lib.hid p7; clear p7; have H_bw7 := Lib.hid bw7; clear bw7
  go_wp2_with fail
  refine H_q8.out.mono ?_
  rintro e w8 ⟨rfl, b8⟩
  have s8 := b8.size
  have p8 := H_p7.out.below b8
  have q9 := H_q5.out w8 X5 x5 p8.ints
  have bw8 := H_bw7.out.trans (b8.mono (by omega))
  have H_b8 := Lib.hid b8; clear b8; have H_q9 := Lib.hid q9; clear q9; have H_p8 := Lib.hid p8; clear p8; have H_bw8 := Lib.hid bw8; clear bw8
  go_wp2_with fail
  refine H_q9.out.mono ?_
  rintro e w9 ⟨rfl, b9⟩
  have bw9 := H_bw8.out.trans (b9.mono (by omega))
  have H_b9 := Lib.hid b9; clear b9; have H_bw9 := Lib.hid bw9; clear bw9
  go_wp2_with fail
  go_ret
  exact ⟨rfl, H_bw9.out⟩
end Go.Proofs.YtopdgjpoknndmaaDoor

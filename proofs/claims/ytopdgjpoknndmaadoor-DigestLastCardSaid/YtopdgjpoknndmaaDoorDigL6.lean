/- The walks of DigestLast and DigestChains. -/
import Derived.Test.YtopdgjpoknndmaaDoorDigL5
namespace Go.Proofs.YtopdgjpoknndmaaDoor
set_option linter.unusedSimpArgs false
set_option linter.unusedVariables false
set_option maxRecDepth 100000
open Go.RowKit

theorem fits_snoc {ll : List (List Int)} {l : List Int} (h : Fits ll) (hl : l.length ≤ 100000) (hf : Fit l) : Fits (ll ++ [l]) := fun x hx => by
  rcases List.mem_append.1 hx with h1 | h1
  · exact h x h1
  · have : x = l := by simpa using h1
    subst this; exact ⟨hl, hf⟩
theorem fits_append {ll mm : List (List Int)} (h : Fits ll) (h2 : Fits mm) : Fits (ll ++ mm) := fun x hx => (List.mem_append.1 hx).elim (h x) (h2 x)

set_option maxHeartbeats 4000000 in
theorem digestLast_walk (A : Option Addr) (c : Nat) (ll : List (List Int)) (B : Option Addr) (cB : Nat) (l : List Int) (which by_ : Int) (w : World)
    (hll : ListsAt w A ll) (hllc : ll.length ≤ c) (hcm3 : c ≤ maxLen) (hllw : ∀ l ∈ ll, l.length ≤ maxLen ∧ ∀ n ∈ l, (Lit.int .i64 n).wf = true)
    (hl : IntsAt w B .i64 l) (hlc : l.length ≤ cB) (hcm : cB ≤ maxLen) (hlw : ∀ n ∈ l, (Lit.int .i64 n).wf = true) (hr : l.length * 8 ≤ 140737488355328) (hat_ : (Lit.int .u16 which).wf = true) (hby_ : (Lit.int .u8 by_).wf = true) (ht : Tab w) :
    Calls Tryd.prog 8 #[.slice A ll.length c, .slice B l.length cB, .int .u16 which, .int .u8 by_] w fun e w' => e = .returned (.bool true) ∧ Below w.heap.size w w' := by
  have ha := wf_u16 hat_
  have hb := wf_u8 hby_
  have hf := fit_of hlw
  have hsh := short_of hllw
  have hft := fits_of hllw
  unfold maxLen at hcm hcm3
  have q1 := head_any w ht
  have bb0 := Below.refl w.heap.size w
  have l0 := hl
  have k0 := hll
  have t0 := ht
  have H_hl := Lib.hid hl; clear hl; have H_hlw := Lib.hid hlw; clear hlw; have H_hat_ := Lib.hid hat_; clear hat_; have H_hby_ := Lib.hid hby_; clear hby_; have H_ht := Lib.hid ht; clear ht; have H_q1 := Lib.hid q1; clear q1; have H_ha := Lib.hid ha; clear ha; have H_hb := Lib.hid hb; clear hb; have H_hf := Lib.hid hf; clear hf; have H_bb0 := Lib.hid bb0; clear bb0; have H_l0 := Lib.hid l0; clear l0; have H_t0 := Lib.hid t0; clear t0; have H_k0 := Lib.hid k0; clear k0; have H_hll := Lib.hid hll; clear hll; have H_hllw := Lib.hid hllw; clear hllw; have H_hsh := Lib.hid hsh; clear hsh; have H_hft := Lib.hid hft; clear hft
  go_enter Tryd.func8, Tryd.ntmps8
  go_wp2_with fail
  refine H_q1.out.mono ?_
  rintro e w1 ⟨rfl, b1⟩
  have s1 := b1.size
  (try simp only [World.size_alloc, World.heap_drewN, World.size_setCell, heap_drew] at s1)
  have bb1 := H_bb0.out.trans (b1.mono (by first | omega | (simp; omega)))
  have l1 := H_l0.out.below b1
  have k1 := H_k0.out.below b1
  have t1 := H_t0.out.below b1
  have H_b1 := Lib.hid b1; clear b1; have H_bb1 := Lib.hid bb1; clear bb1; have H_l1 := Lib.hid l1; clear l1; have H_k1 := Lib.hid k1; clear k1; have H_t1 := Lib.hid t1; clear t1
  have q5 := turned_any B cB l which by_ w1 H_l1.out (by omega) H_ha.out H_hb.out
  have H_q5 := Lib.hid q5; clear q5
  go_wp2_with fail
  refine H_q5.out.mono ?_
  rintro e w5 ⟨b5, h5⟩
  have s5 := b5.size
  have bb5 := H_bb1.out.trans (b5.mono (by omega))
  have l5 := H_l1.out.below b5
  have k5 := H_k1.out.below b5
  have t5 := H_t1.out.below b5
  have q2 := few_any A c ll w5 k5 (by omega) H_hsh.out
  generalize hF : fewB ll = F at *
  have H_b5 := Lib.hid b5; clear b5; have H_bb5 := Lib.hid bb5; clear bb5; have H_l5 := Lib.hid l5; clear l5; have H_t5 := Lib.hid t5; clear t5; have H_k5 := Lib.hid k5; clear k5; have H_q2 := Lib.hid q2; clear q2
  cases F with
  | false =>
    have hx : ∃ v b, e = .returned (.tuple #[v, .bool b]) := by
      rcases h5 with ⟨_, rfl⟩ | ⟨_, X, y, rfl, _⟩
      · exact ⟨_, _, rfl⟩
      · exact ⟨_, _, rfl⟩
    obtain ⟨v, b, rfl⟩ := hx
    have H_h5 := Lib.hid h5; clear h5; have H_hF := Lib.hid hF; clear hF
    go_wp2_with fail
    refine H_q2.out.mono ?_
    rintro e w_ ⟨rfl, rfl⟩
    go_wp2_with fail
    go_ret
    exact ⟨rfl, H_bb5.out⟩
  | true =>
    have hft2 := H_hft.out rfl
    have hl40 := (fewB_in hF).1
    by_cases g1 : (40 : Int) < (l.length : Int)
    · have hx : ∃ v b, e = .returned (.tuple #[v, .bool b]) := by
        rcases h5 with ⟨_, rfl⟩ | ⟨_, X, y, rfl, _⟩
        · exact ⟨_, _, rfl⟩
        · exact ⟨_, _, rfl⟩
      obtain ⟨v, b, rfl⟩ := hx
      have H_h5 := Lib.hid h5; clear h5; have H_hF := Lib.hid hF; clear hF; have H_hft2 := Lib.hid hft2; clear hft2
      go_wp2_with fail
      refine H_q2.out.mono ?_
      rintro e w_ ⟨rfl, rfl⟩
      go_wp2_with fail
      go_ret
      exact ⟨rfl, H_bb5.out⟩
    have g1' : decide ((40 : Int) < (l.length : Int)) = false := by simpa using g1
    rcases h5 with ⟨h5, rfl⟩ | ⟨h5, X, y, rfl, h6, h7⟩
    · have H_h5 := Lib.hid h5; clear h5; have H_hF := Lib.hid hF; clear hF; have H_hft2 := Lib.hid hft2; clear hft2
      go_wp2_with fail
      refine H_q2.out.mono ?_
      rintro e w_ ⟨rfl, rfl⟩
      go_wp2_with fail
      go_ret
      exact ⟨rfl, H_bb5.out⟩
    have hne := chain_turn ll l (at16 l which) by_ (at16_lt h5.1) h5.2.1 H_hb.out.1
    change chainB (ll ++ [l]) ≠ chainB (ll ++ [turnedL l which by_]) at hne
    have q6 := fun W Y z (h1 : ListsAt W Y (ll ++ [l])) h2 => digChain_val Y z (ll.length + 1) (ll ++ [l]) (by simp) _ rfl W h1 (by omega) (fits_snoc hft2 (by omega) H_hf.out) h2
    have htl := turned_len l which by_
    have q7 := fun W Y z (h1 : ListsAt W Y (ll ++ [turnedL l which by_])) h2 => digChain_val Y z (ll.length + 1) (ll ++ [turnedL l which by_]) (by simp) _ rfl W h1 (by omega) (fits_snoc hft2 (by rw [htl]; omega) (turned_fit H_hf.out h5 H_hb.out.1)) h2
    generalize chainB (ll ++ [l]) = N at *
    generalize chainB (ll ++ [turnedL l which by_]) = M at *
    have hnm : (N != M) = true := by rw [bne_iff_ne]; exact hne
    have H_h5 := Lib.hid h5; clear h5; have H_hF := Lib.hid hF; clear hF; have H_hft2 := Lib.hid hft2; clear hft2; have H_hne := Lib.hid hne; clear hne; have H_q6 := Lib.hid q6; clear q6; have H_q7 := Lib.hid q7; clear q7; have H_h7 := Lib.hid h7; clear h7; have H_htl := Lib.hid htl; clear htl
    go_wp2_with fail
    refine H_q2.out.mono ?_
    rintro e w_ ⟨rfl, rfl⟩
    go_wp2_with (at_builtin; refine wp_app_rows w5 _ rfl (.tmp 35) (.tmp 36) rfl (some ⟨w5.heap.size, 0, none⟩) 0 0 [] rfl rfl (RowL.empty (Nat.le_refl _) _ rfl) ((Below.refl _ _).alloc (Nat.le_refl _) _) A c ll.length ll rfl rfl H_k5.out (by omega) ?_)
    intro A6 c6 w6 r6 b6
    have s6 := b6.size
    have H_r6 := Lib.hid r6; clear r6; have H_b6 := Lib.hid b6; clear b6
    go_wp2_with (at_builtin; refine wp_app_row1 w5 _ rfl (.tmp 37) (.tmp 39) rfl A6 c6 ll.length ll rfl rfl (H_r6.out.alloc _) (H_b6.out.alloc (by omega) _) w6.heap.size rfl B cB l.length l rfl (cell_new1 rfl) (by omega) H_l5.out (by omega) ?_)
    intro A7 c7 w7 r7 b7
    have s7 := b7.size
    have m5 := H_h7.out
    have q8 := H_q6.out w7 A7 c7 (r7.lists b7) (H_t5.out.below b7)
    have bb7 := H_bb5.out.trans (b7.mono (by omega))
    have k7 := H_k5.out.below b7
    have t7 := H_t5.out.below b7
    have m7 := m5.below b7
    have H_r7 := Lib.hid r7; clear r7; have H_b7 := Lib.hid b7; clear b7; have H_q8 := Lib.hid q8; clear q8; have H_bb7 := Lib.hid bb7; clear bb7; have H_k7 := Lib.hid k7; clear k7; have H_t7 := Lib.hid t7; clear t7; have H_m7 := Lib.hid m7; clear m7; have H_m5 := Lib.hid m5; clear m5
    go_wp2_with fail
    refine H_q8.out.mono ?_
    rintro e w8 ⟨rfl, b8⟩
    have s8 := b8.size
    (try simp only [World.size_alloc, World.heap_drewN, World.size_setCell, heap_drew] at s8)
    have bb8 := H_bb7.out.trans (b8.mono (by first | omega | (simp; omega)))
    have k8 := H_k7.out.below b8
    have t8 := H_t7.out.below b8
    have m8 := H_m7.out.below b8
    have H_b8 := Lib.hid b8; clear b8; have H_bb8 := Lib.hid bb8; clear bb8; have H_k8 := Lib.hid k8; clear k8; have H_t8 := Lib.hid t8; clear t8; have H_m8 := Lib.hid m8; clear m8
    go_wp2_with (at_builtin; refine wp_app_rows w8 _ rfl (.tmp 42) (.tmp 43) rfl (some ⟨w8.heap.size, 0, none⟩) 0 0 [] rfl rfl (RowL.empty (Nat.le_refl _) _ rfl) ((Below.refl _ _).alloc (Nat.le_refl _) _) A c ll.length ll rfl rfl H_k8.out (by omega) ?_)
    intro A9 c9 w9 r9 b9
    have s9 := b9.size
    have H_r9 := Lib.hid r9; clear r9; have H_b9 := Lib.hid b9; clear b9
    go_wp2_with (at_builtin; refine wp_app_row1 w8 _ rfl (.tmp 44) (.tmp 46) rfl A9 c9 ll.length ll rfl rfl (H_r9.out.alloc _) (H_b9.out.alloc (by omega) _) w9.heap.size rfl X y l.length (turnedL l which by_) H_htl.out (cell_new1 rfl) (by omega) H_m8.out (by omega) ?_)
    intro A10 c10 w10 r10 b10
    have s10 := b10.size
    have q11 := H_q7.out w10 A10 c10 (r10.lists b10) (H_t8.out.below b10)
    have bb10 := H_bb8.out.trans (b10.mono (by omega))
    have H_r10 := Lib.hid r10; clear r10; have H_b10 := Lib.hid b10; clear b10; have H_q11 := Lib.hid q11; clear q11; have H_bb10 := Lib.hid bb10; clear bb10
    go_wp2_with fail
    refine H_q11.out.mono ?_
    rintro e w11 ⟨rfl, b11⟩
    have s11 := b11.size
    (try simp only [World.size_alloc, World.heap_drewN, World.size_setCell, heap_drew] at s11)
    have bb11 := H_bb10.out.trans (b11.mono (by first | omega | (simp; omega)))
    have H_b11 := Lib.hid b11; clear b11; have H_bb11 := Lib.hid bb11; clear bb11
    go_wp2_with fail
    go_ret
    exact ⟨rfl, H_bb11.out⟩

set_option maxHeartbeats 4000000 in
theorem digestChains_walk (A : Option Addr) (c : Nat) (a : List (List Int)) (B : Option Addr) (cB : Nat) (b : List (List Int)) (C : Option Addr) (cC : Nat) (m : List (List Int)) (D : Option Addr) (cD : Nat) (l : List Int) (w : World)
    (ha : ListsAt w A a) (hac : a.length ≤ c) (hcm : c ≤ maxLen) (haw : ∀ l ∈ a, l.length ≤ maxLen ∧ ∀ n ∈ l, (Lit.int .i64 n).wf = true)
    (hb : ListsAt w B b) (hbc : b.length ≤ cB) (hcm2 : cB ≤ maxLen) (hbw : ∀ l ∈ b, l.length ≤ maxLen ∧ ∀ n ∈ l, (Lit.int .i64 n).wf = true)
    (hm : ListsAt w C m) (hmc : m.length ≤ cC) (hcm3 : cC ≤ maxLen) (hmw : ∀ l ∈ m, l.length ≤ maxLen ∧ ∀ n ∈ l, (Lit.int .i64 n).wf = true)
    (hl : IntsAt w D .i64 l) (hlc : l.length ≤ cD) (hcm4 : cD ≤ maxLen) (hlw : ∀ n ∈ l, (Lit.int .i64 n).wf = true) (ht : Tab w) :
    Calls Tryd.prog 7 #[.slice A a.length c, .slice B b.length cB, .slice C m.length cC, .slice D l.length cD] w fun e w' => e = .returned (.bool true) ∧ Below w.heap.size w w' := by
  obtain ⟨i0, hi, hz0, hz1, hz2⟩ := info_parts infoI64
  have hf := fit_of hlw
  have sa := short_of haw; have sb := short_of hbw; have sm := short_of hmw
  have fa := fits_of haw; have fb := fits_of hbw; have fm := fits_of hmw
  unfold maxLen at hcm hcm2 hcm3 hcm4
  have q1 := head_any w ht
  have bb0 := Below.refl w.heap.size w
  have a0 := ha; have c0 := hb; have d0 := hm; have l0 := hl; have t0 := ht
  have H_ha := Lib.hid ha; clear ha; have H_haw := Lib.hid haw; clear haw; have H_hb := Lib.hid hb; clear hb; have H_hbw := Lib.hid hbw; clear hbw; have H_hm := Lib.hid hm; clear hm; have H_hmw := Lib.hid hmw; clear hmw; have H_hl := Lib.hid hl; clear hl; have H_hlw := Lib.hid hlw; clear hlw; have H_ht := Lib.hid ht; clear ht; have H_hf := Lib.hid hf; clear hf; have H_sa := Lib.hid sa; clear sa; have H_sb := Lib.hid sb; clear sb; have H_sm := Lib.hid sm; clear sm; have H_fa := Lib.hid fa; clear fa; have H_fb := Lib.hid fb; clear fb; have H_fm := Lib.hid fm; clear fm; have H_q1 := Lib.hid q1; clear q1; have H_bb0 := Lib.hid bb0; clear bb0; have H_a0 := Lib.hid a0; clear a0; have H_c0 := Lib.hid c0; clear c0; have H_d0 := Lib.hid d0; clear d0; have H_l0 := Lib.hid l0; clear l0; have H_t0 := Lib.hid t0; clear t0
  go_enter Tryd.func7, Tryd.ntmps7
  go_wp2_with fail
  refine H_q1.out.mono ?_
  rintro e w1 ⟨rfl, b1⟩
  have s1 := b1.size
  (try simp only [World.size_alloc, World.heap_drewN, World.size_setCell, heap_drew] at s1)
  have bb1 := H_bb0.out.trans (b1.mono (by first | omega | (simp; omega)))
  have a1 := H_a0.out.below b1
  have c1 := H_c0.out.below b1
  have d1 := H_d0.out.below b1
  have l1 := H_l0.out.below b1
  have t1 := H_t0.out.below b1
  have H_b1 := Lib.hid b1; clear b1; have H_bb1 := Lib.hid bb1; clear bb1; have H_a1 := Lib.hid a1; clear a1; have H_c1 := Lib.hid c1; clear c1; have H_d1 := Lib.hid d1; clear d1; have H_l1 := Lib.hid l1; clear l1; have H_t1 := Lib.hid t1; clear t1
  have q2 := few_any A c a w1 H_a1.out (by omega) H_sa.out
  have q3 := few_any B cB b w1 H_c1.out (by omega) H_sb.out
  have q4 := few_any C cC m w1 H_d1.out (by omega) H_sm.out
  generalize hFa : fewB a = Fa at *
  generalize hFb : fewB b = Fb at *
  generalize hFm : fewB m = Fm at *
  have H_q2 := Lib.hid q2; clear q2; have H_q3 := Lib.hid q3; clear q3; have H_q4 := Lib.hid q4; clear q4
  cases Fa with
  | false =>
    have H_hFa := Lib.hid hFa; clear hFa; have H_hFb := Lib.hid hFb; clear hFb; have H_hFm := Lib.hid hFm; clear hFm
    go_wp2_with fail
    refine H_q2.out.mono ?_
    rintro e w_ ⟨rfl, rfl⟩
    go_wp2_with fail
    go_ret
    exact ⟨rfl, H_bb1.out⟩
  | true =>
  cases Fb with
  | false =>
    have H_hFa := Lib.hid hFa; clear hFa; have H_hFb := Lib.hid hFb; clear hFb; have H_hFm := Lib.hid hFm; clear hFm
    go_wp2_with fail
    refine H_q2.out.mono ?_
    rintro e w_ ⟨rfl, rfl⟩
    go_wp2_with fail
    refine H_q3.out.mono ?_
    rintro e w_ ⟨rfl, rfl⟩
    go_wp2_with fail
    go_ret
    exact ⟨rfl, H_bb1.out⟩
  | true =>
  cases Fm with
  | false =>
    have H_hFa := Lib.hid hFa; clear hFa; have H_hFb := Lib.hid hFb; clear hFb; have H_hFm := Lib.hid hFm; clear hFm
    go_wp2_with fail
    refine H_q2.out.mono ?_
    rintro e w_ ⟨rfl, rfl⟩
    go_wp2_with fail
    refine H_q3.out.mono ?_
    rintro e w_ ⟨rfl, rfl⟩
    go_wp2_with fail
    refine H_q4.out.mono ?_
    rintro e w_ ⟨rfl, rfl⟩
    go_wp2_with fail
    go_ret
    exact ⟨rfl, H_bb1.out⟩
  | true =>
  by_cases g1 : (40 : Int) < (l.length : Int)
  · have H_hFa := Lib.hid hFa; clear hFa; have H_hFb := Lib.hid hFb; clear hFb; have H_hFm := Lib.hid hFm; clear hFm
    go_wp2_with fail
    refine H_q2.out.mono ?_
    rintro e w_ ⟨rfl, rfl⟩
    go_wp2_with fail
    refine H_q3.out.mono ?_
    rintro e w_ ⟨rfl, rfl⟩
    go_wp2_with fail
    refine H_q4.out.mono ?_
    rintro e w_ ⟨rfl, rfl⟩
    go_wp2_with fail
    go_ret
    exact ⟨rfl, H_bb1.out⟩
  have g1' : decide ((40 : Int) < (l.length : Int)) = false := by simpa using g1
  have la := (fewB_in hFa).1; have lb := (fewB_in hFb).1; have lm := (fewB_in hFm).1
  have ga := H_fa.out rfl; have gb := H_fb.out rfl; have gm := H_fm.out rfl
  have e1 := chain_snoc a l
  have e2 := fun h => chain_same (a := a) (b := b) h m
  have p1 := fun W Y z (h1 : ListsAt W Y (a ++ [l])) h2 => digChain_val Y z (a.length + 1) (a ++ [l]) (by simp) _ rfl W h1 (by omega) (fits_snoc ga (by omega) H_hf.out) h2
  have p2 := fun W (h1 : ListsAt W A a) h2 => digChain_val A c a.length a rfl _ rfl W h1 (by omega) ga h2
  have p3 := fun W (h1 : ListsAt W B b) h2 => digChain_val B cB b.length b rfl _ rfl W h1 (by omega) gb h2
  have p4 := fun W Y z (h1 : ListsAt W Y (a ++ m)) h2 => digChain_val Y z (a.length + m.length) (a ++ m) (by simp) _ rfl W h1 (by omega) (fits_append ga gm) h2
  have p5 := fun W Y z (h1 : ListsAt W Y (b ++ m)) h2 => digChain_val Y z (b.length + m.length) (b ++ m) (by simp) _ rfl W h1 (by omega) (fits_append gb gm) h2
  have hci := chainB_in a
  have p6 := fun W Y z (h1 : IntsAt W Y .i64 ((l.length : Int) :: l)) h2 => digNext_val (chainB a) Y z (1 + l.length) ((l.length : Int) :: l) (by simp; omega) _ rfl W hci h1 (by omega) (fit_cons (by omega) H_hf.out) h2
  rw [e1] at p1
  generalize nextB (chainB a) ((l.length : Int) :: l) = N at *
  generalize chainB a = Ca at *
  generalize chainB b = Cb at *
  generalize chainB (a ++ m) = Cam at *
  generalize chainB (b ++ m) = Cbm at *
  have hnn : (N == N) = true := by simp
  have H_hFa := Lib.hid hFa; clear hFa; have H_hFb := Lib.hid hFb; clear hFb; have H_hFm := Lib.hid hFm; clear hFm; have H_ga := Lib.hid ga; clear ga; have H_gb := Lib.hid gb; clear gb; have H_gm := Lib.hid gm; clear gm; have H_e1 := Lib.hid e1; clear e1; have H_e2 := Lib.hid e2; clear e2; have H_p1 := Lib.hid p1; clear p1; have H_p2 := Lib.hid p2; clear p2; have H_p3 := Lib.hid p3; clear p3; have H_p4 := Lib.hid p4; clear p4; have H_p5 := Lib.hid p5; clear p5; have H_p6 := Lib.hid p6; clear p6; have H_hci := Lib.hid hci; clear hci
  go_wp2_with fail
  refine H_q2.out.mono ?_
  rintro e w_ ⟨rfl, rfl⟩
  go_wp2_with fail
  refine H_q3.out.mono ?_
  rintro e w_ ⟨rfl, rfl⟩
  go_wp2_with fail
  refine H_q4.out.mono ?_
  rintro e w_ ⟨rfl, rfl⟩
  go_wp2_with (at_builtin; refine wp_app_rows w1 _ rfl (.tmp 34) (.tmp 35) rfl (some ⟨w1.heap.size, 0, none⟩) 0 0 [] rfl rfl (RowL.empty (Nat.le_refl _) _ rfl) ((Below.refl _ _).alloc (Nat.le_refl _) _) A c a.length a rfl rfl H_a1.out (by omega) ?_)
  intro A2 c2 w2 r2 b2
  have s2 := b2.size
  have H_r2 := Lib.hid r2; clear r2; have H_b2 := Lib.hid b2; clear b2
  go_wp2_with (at_builtin; refine wp_app_row1 w1 _ rfl (.tmp 36) (.tmp 38) rfl A2 c2 a.length a rfl rfl (H_r2.out.alloc _) (H_b2.out.alloc (by omega) _) w2.heap.size rfl D cD l.length l rfl (cell_new1 rfl) (by omega) H_l1.out (by omega) ?_)
  intro A3 c3 w3 r3 b3
  have s3 := b3.size
  have bb3 := H_bb1.out.trans (b3.mono (by omega))
  have l3 := H_l1.out.below b3
  have t3 := H_t1.out.below b3
  have a3 := H_a1.out.below b3
  have c3' := H_c1.out.below b3
  have d3 := H_d1.out.below b3
  have r3' := r3.lists b3
  have H_r3 := Lib.hid r3; clear r3; have H_b3 := Lib.hid b3; clear b3; have H_bb3 := Lib.hid bb3; clear bb3; have H_l3 := Lib.hid l3; clear l3; have H_t3 := Lib.hid t3; clear t3; have H_a3 := Lib.hid a3; clear a3; have H_c3' := Lib.hid c3'; clear c3'; have H_d3 := Lib.hid d3; clear d3; have H_r3' := Lib.hid r3'; clear r3'
  go_wp2_with (at_builtin; refine wp_app_at _ rfl (.tmp 42) (.tmp 43) _ rfl w3.heap.size 3 i0 _ 8 Tryd.underlying24 hi hz0 hz1 hz2 rfl .i64 (some ⟨w3.heap.size, 0, none⟩) 1 1 [(l.length : Int)] rfl rfl (own_lit (w := w3) [(l.length : Int)] (Nat.le_refl _) (by simp) _ rfl) D cD l.length l rfl rfl (H_l3.out.alloc _) (by omega) (by omega) (by simp) ?_)
  intro X x w4 ho4 hg4 hB4
  have b4 : Below w3.heap.size w3 w4 := (own_lit (w := w3) (k := .i64) [(l.length : Int)] (Nat.le_refl _) (by simp) _ rfl).grow ((Below.refl _ _).alloc (Nat.le_refl _) _) hg4
  have s4 := b4.size
  have bb4 := H_bb3.out.trans (b4.mono (by omega))
  have o4 := ho4.ints
  have q5 := H_p1.out w4 A3 c3 (H_r3'.out.below b4) (H_t3.out.below b4)
  have a4 := H_a3.out.below b4
  have c4 := H_c3'.out.below b4
  have d4 := H_d3.out.below b4
  have t4 := H_t3.out.below b4
  have H_ho4 := Lib.hid ho4; clear ho4; have H_hg4 := Lib.hid hg4; clear hg4; have H_hB4 := Lib.hid hB4; clear hB4; have H_b4 := Lib.hid b4; clear b4; have H_bb4 := Lib.hid bb4; clear bb4; have H_o4 := Lib.hid o4; clear o4; have H_q5 := Lib.hid q5; clear q5; have H_a4 := Lib.hid a4; clear a4; have H_c4 := Lib.hid c4; clear c4; have H_d4 := Lib.hid d4; clear d4; have H_t4 := Lib.hid t4; clear t4
  go_wp2_with fail
  refine H_q5.out.mono ?_
  rintro e w5 ⟨rfl, b5⟩
  have s5 := b5.size
  (try simp only [World.size_alloc, World.heap_drewN, World.size_setCell, heap_drew] at s5)
  have bb5 := H_bb4.out.trans (b5.mono (by first | omega | (simp; omega)))
  have o5 := H_o4.out.below b5
  have a5 := H_a4.out.below b5
  have c5 := H_c4.out.below b5
  have d5 := H_d4.out.below b5
  have t5 := H_t4.out.below b5
  have H_b5 := Lib.hid b5; clear b5; have H_bb5 := Lib.hid bb5; clear bb5; have H_o5 := Lib.hid o5; clear o5; have H_a5 := Lib.hid a5; clear a5; have H_c5 := Lib.hid c5; clear c5; have H_d5 := Lib.hid d5; clear d5; have H_t5 := Lib.hid t5; clear t5
  have q6 := H_p2.out w5 H_a5.out H_t5.out
  have H_q6 := Lib.hid q6; clear q6
  go_wp2_with fail
  refine H_q6.out.mono ?_
  rintro e w6 ⟨rfl, b6⟩
  have s6 := b6.size
  (try simp only [World.size_alloc, World.heap_drewN, World.size_setCell, heap_drew] at s6)
  have bb6 := H_bb5.out.trans (b6.mono (by first | omega | (simp; omega)))
  have o6 := H_o5.out.below b6
  have a6 := H_a5.out.below b6
  have c6 := H_c5.out.below b6
  have d6 := H_d5.out.below b6
  have t6 := H_t5.out.below b6
  have H_b6 := Lib.hid b6; clear b6; have H_bb6 := Lib.hid bb6; clear bb6; have H_o6 := Lib.hid o6; clear o6; have H_a6 := Lib.hid a6; clear a6; have H_c6 := Lib.hid c6; clear c6; have H_d6 := Lib.hid d6; clear d6; have H_t6 := Lib.hid t6; clear t6
  have q7 := H_p6.out w6 X x H_o6.out H_t6.out
  have H_q7 := Lib.hid q7; clear q7
  go_wp2_with fail
  refine H_q7.out.mono ?_
  rintro e w7 ⟨rfl, b7⟩
  have s7 := b7.size
  (try simp only [World.size_alloc, World.heap_drewN, World.size_setCell, heap_drew] at s7)
  have bb7 := H_bb6.out.trans (b7.mono (by first | omega | (simp; omega)))
  have a7 := H_a6.out.below b7
  have c7 := H_c6.out.below b7
  have d7 := H_d6.out.below b7
  have t7 := H_t6.out.below b7
  have H_b7 := Lib.hid b7; clear b7; have H_bb7 := Lib.hid bb7; clear bb7; have H_a7 := Lib.hid a7; clear a7; have H_c7 := Lib.hid c7; clear c7; have H_d7 := Lib.hid d7; clear d7; have H_t7 := Lib.hid t7; clear t7
  go_wp2_with (at_builtin; refine wp_app_rows w7 _ rfl (.tmp 55) (.tmp 56) rfl (some ⟨w7.heap.size, 0, none⟩) 0 0 [] rfl rfl (RowL.empty (Nat.le_refl _) _ rfl) ((Below.refl _ _).alloc (Nat.le_refl _) _) A c a.length a rfl rfl H_a7.out (by omega) ?_)
  intro A8 c8 w8 r8 b8
  have s8 := b8.size
  have H_r8 := Lib.hid r8; clear r8; have H_b8 := Lib.hid b8; clear b8
  go_wp2_with (at_builtin; refine wp_app_rows w7 _ rfl (.tmp 57) (.tmp 58) rfl A8 c8 a.length a rfl rfl H_r8.out H_b8.out C cC m.length m rfl rfl H_d7.out (by omega) ?_)
  intro A9 c9 w9 r9 b9
  have s9 := b9.size
  have bb9 := H_bb7.out.trans (b9.mono (by omega))
  have e9 := r9.lists b9
  have a9 := H_a7.out.below b9
  have c9' := H_c7.out.below b9
  have d9 := H_d7.out.below b9
  have t9 := H_t7.out.below b9
  have H_r9 := Lib.hid r9; clear r9; have H_b9 := Lib.hid b9; clear b9; have H_bb9 := Lib.hid bb9; clear bb9; have H_e9 := Lib.hid e9; clear e9; have H_a9 := Lib.hid a9; clear a9; have H_c9' := Lib.hid c9'; clear c9'; have H_d9 := Lib.hid d9; clear d9; have H_t9 := Lib.hid t9; clear t9
  go_wp2_with (at_builtin; refine wp_app_rows w9 _ rfl (.tmp 60) (.tmp 61) rfl (some ⟨w9.heap.size, 0, none⟩) 0 0 [] rfl rfl (RowL.empty (Nat.le_refl _) _ rfl) ((Below.refl _ _).alloc (Nat.le_refl _) _) B cB b.length b rfl rfl H_c9'.out (by omega) ?_)
  intro A10 c10 w10 r10 b10
  have s10 := b10.size
  have H_r10 := Lib.hid r10; clear r10; have H_b10 := Lib.hid b10; clear b10
  go_wp2_with (at_builtin; refine wp_app_rows w9 _ rfl (.tmp 62) (.tmp 63) rfl A10 c10 b.length b rfl rfl H_r10.out H_b10.out C cC m.length m rfl rfl H_d9.out (by omega) ?_)
  intro A11 c11 w11 r11 b11
  have s11 := b11.size
  have bb11 := H_bb9.out.trans (b11.mono (by omega))
  have e11 := H_e9.out.below b11
  have f11 := r11.lists b11
  have a11 := H_a9.out.below b11
  have c11' := H_c9'.out.below b11
  have t11 := H_t9.out.below b11
  have q12 := H_p2.out w11 a11 t11
  have H_r11 := Lib.hid r11; clear r11; have H_b11 := Lib.hid b11; clear b11; have H_bb11 := Lib.hid bb11; clear bb11; have H_e11 := Lib.hid e11; clear e11; have H_f11 := Lib.hid f11; clear f11; have H_a11 := Lib.hid a11; clear a11; have H_c11' := Lib.hid c11'; clear c11'; have H_t11 := Lib.hid t11; clear t11; have H_q12 := Lib.hid q12; clear q12
  by_cases hx : Ca = Cb
  · have hx1 : (Ca != Cb) = false := by rw [bne_eq_false_iff_eq]; exact hx
    have hx2 : (Cam == Cbm) = true := by rw [beq_iff_eq]; exact H_e2.out hx
    have k11 := H_c11'.out
    have H_hx := Lib.hid hx; clear hx; have H_k11 := Lib.hid k11; clear k11
    go_wp2_with fail
    refine H_q12.out.mono ?_
    rintro e w12 ⟨rfl, b12⟩
    have s12 := b12.size
    (try simp only [World.size_alloc, World.heap_drewN, World.size_setCell, heap_drew] at s12)
    have bb12 := H_bb11.out.trans (b12.mono (by first | omega | (simp; omega)))
    have e12 := H_e11.out.below b12
    have f12 := H_f11.out.below b12
    have k12 := H_k11.out.below b12
    have t12 := H_t11.out.below b12
    have H_b12 := Lib.hid b12; clear b12; have H_bb12 := Lib.hid bb12; clear bb12; have H_e12 := Lib.hid e12; clear e12; have H_f12 := Lib.hid f12; clear f12; have H_k12 := Lib.hid k12; clear k12; have H_t12 := Lib.hid t12; clear t12
    have q13 := H_p3.out w12 H_k12.out H_t12.out
    have H_q13 := Lib.hid q13; clear q13
    go_wp2_with fail
    refine H_q13.out.mono ?_
    rintro e w13 ⟨rfl, b13⟩
    have s13 := b13.size
    (try simp only [World.size_alloc, World.heap_drewN, World.size_setCell, heap_drew] at s13)
    have bb13 := H_bb12.out.trans (b13.mono (by first | omega | (simp; omega)))
    have e13 := H_e12.out.below b13
    have f13 := H_f12.out.below b13
    have t13 := H_t12.out.below b13
    have H_b13 := Lib.hid b13; clear b13; have H_bb13 := Lib.hid bb13; clear bb13; have H_e13 := Lib.hid e13; clear e13; have H_f13 := Lib.hid f13; clear f13; have H_t13 := Lib.hid t13; clear t13
    have q14 := H_p4.out w13 A9 c9 H_e13.out H_t13.out
    have H_q14 := Lib.hid q14; clear q14
    go_wp2_with fail
    refine H_q14.out.mono ?_
    rintro e w14 ⟨rfl, b14⟩
    have s14 := b14.size
    (try simp only [World.size_alloc, World.heap_drewN, World.size_setCell, heap_drew] at s14)
    have bb14 := H_bb13.out.trans (b14.mono (by first | omega | (simp; omega)))
    have f14 := H_f13.out.below b14
    have t14 := H_t13.out.below b14
    have H_b14 := Lib.hid b14; clear b14; have H_bb14 := Lib.hid bb14; clear bb14; have H_f14 := Lib.hid f14; clear f14; have H_t14 := Lib.hid t14; clear t14
    have q15 := H_p5.out w14 A11 c11 H_f14.out H_t14.out
    have H_q15 := Lib.hid q15; clear q15
    go_wp2_with fail
    refine H_q15.out.mono ?_
    rintro e w15 ⟨rfl, b15⟩
    have s15 := b15.size
    (try simp only [World.size_alloc, World.heap_drewN, World.size_setCell, heap_drew] at s15)
    have bb15 := H_bb14.out.trans (b15.mono (by first | omega | (simp; omega)))
    have H_b15 := Lib.hid b15; clear b15; have H_bb15 := Lib.hid bb15; clear bb15
    go_wp2_with fail
    go_ret
    exact ⟨rfl, H_bb15.out⟩
  · have hx1 : (Ca != Cb) = true := by rw [bne_iff_ne]; exact hx
    have k11 := H_c11'.out
    have H_hx := Lib.hid hx; clear hx; have H_k11 := Lib.hid k11; clear k11
    go_wp2_with fail
    refine H_q12.out.mono ?_
    rintro e w12 ⟨rfl, b12⟩
    have s12 := b12.size
    (try simp only [World.size_alloc, World.heap_drewN, World.size_setCell, heap_drew] at s12)
    have bb12 := H_bb11.out.trans (b12.mono (by first | omega | (simp; omega)))
    have k12 := H_k11.out.below b12
    have t12 := H_t11.out.below b12
    have H_b12 := Lib.hid b12; clear b12; have H_bb12 := Lib.hid bb12; clear bb12; have H_k12 := Lib.hid k12; clear k12; have H_t12 := Lib.hid t12; clear t12
    have q13 := H_p3.out w12 H_k12.out H_t12.out
    have H_q13 := Lib.hid q13; clear q13
    go_wp2_with fail
    refine H_q13.out.mono ?_
    rintro e w13 ⟨rfl, b13⟩
    have s13 := b13.size
    (try simp only [World.size_alloc, World.heap_drewN, World.size_setCell, heap_drew] at s13)
    have bb13 := H_bb12.out.trans (b13.mono (by first | omega | (simp; omega)))
    have H_b13 := Lib.hid b13; clear b13; have H_bb13 := Lib.hid bb13; clear bb13
    go_wp2_with fail
    go_ret
    exact ⟨rfl, H_bb13.out⟩
end Go.Proofs.YtopdgjpoknndmaaDoor

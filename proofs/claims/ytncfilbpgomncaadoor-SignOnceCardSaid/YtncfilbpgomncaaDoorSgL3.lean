/- The walk of SignOnce. -/
import Derived.Test.YtncfilbpgomncaaDoorSgT
namespace Go.Proofs.YtncfilbpgomncaaDoor
set_option linter.unusedSimpArgs false
set_option linter.unusedVariables false
set_option maxRecDepth 100000
open Go.RowKit

set_option maxHeartbeats 4000000 in
theorem signOnce_walk (k o : Int) (A : Option Addr) (c : Nat) (l : List Int) (B : Option Addr) (d : Nat) (m : List Int) (w : World) (hk : (Lit.int .u64 k).wf = true) (ho : (Lit.int .u64 o).wf = true)
    (hl : IntsAt w A .i64 l) (hlc : l.length ≤ c) (hcm : c ≤ maxLen) (hlw : ∀ n ∈ l, (Lit.int .i64 n).wf = true)
    (hm : IntsAt w B .i64 m) (hmc : m.length ≤ d) (hcm2 : d ≤ maxLen) (hmw : ∀ n ∈ m, (Lit.int .i64 n).wf = true) (ht : Tab w) :
    Calls Tryd.prog 7 #[.int .u64 k, .int .u64 o, .slice A l.length c, .slice B m.length d] w fun e w' => e = .returned (.bool true) ∧ Below w.heap.size w w' := by
  unfold maxLen at hcm hcm2
  have hq : QQ = 1073741789 := rfl
  have q1 := head5_any w ht
  have q2 := fun W => secret_any k W (wf_u64 hk)
  have q3 := fun W => secret_any o W (wf_u64 ho)
  have q4 := fun W (hW : IntsAt W A .i64 l) => lfew_any A c l W hW hlc (by omega)
  have q5 := fun W (hW : IntsAt W B .i64 m) => lfew_any B d m W hW hmc (by omega)
  have n1 : (l.take 20).length ≤ 20 := by simp; omega
  have n2 : (m.take 20).length ≤ 20 := by simp; omega
  have q6 := fun W (h1 : IntsAt W A .i64 (l.take 20)) h2 => sign_yes (secN k) (secN o) A c (l.take 20).length (l.take 20) rfl W (secN_wth k) (secN_wth o) h1 (by omega) (fit_take (fit_of hlw) 20) h2
  have q7 := fun W (h1 : IntsAt W B .i64 (m.take 20)) h2 => sign_yes (secN k) (secN o) B d (m.take 20).length (m.take 20) rfl W (secN_wth k) (secN_wth o) h1 (by omega) (fit_take (fit_of hmw) 20) h2
  have hE := sigE_lt (secN k) (secN o) (l.take 20)
  have hF := sigE_lt (secN k) (secN o) (m.take 20)
  have hS := sigS_lt (secN k) (secN o) (l.take 20)
  have hT := sigS_lt (secN k) (secN o) (m.take 20)
  have hlaw := once_law (secN k) (secN o) _ _ (secN_lt k) hE hF
  change _ → (((sigS (secN k) (secN o) (l.take 20) : Nat) : Int) - ((sigS (secN k) (secN o) (m.take 20) : Nat) : Int) + 1073741789) % 1073741789 * _ % 1073741789 = _ at hlaw
  have hsame : sigE (secN k) (secN o) (l.take 20) = sigE (secN k) (secN o) (m.take 20) → sigS (secN k) (secN o) (l.take 20) = sigS (secN k) (secN o) (m.take 20) := fun h => by rw [sigS, sigS, h]
  generalize sigE (secN k) (secN o) (l.take 20) = E1 at *
  generalize sigS (secN k) (secN o) (l.take 20) = S1 at *
  generalize sigE (secN k) (secN o) (m.take 20) = E2 at *
  generalize sigS (secN k) (secN o) (m.take 20) = S2 at *
  generalize ((secN k : Nat) : Int) = K at *
  generalize ((secN o : Nat) : Int) = O at *
  have bb0 := Below.refl w.heap.size w
  have l0 := hl
  have m0 := hm
  have t0 := ht
  have H_q1 := Lib.hid q1; clear q1; have H_q2 := Lib.hid q2; clear q2; have H_q3 := Lib.hid q3; clear q3; have H_q4 := Lib.hid q4; clear q4; have H_q5 := Lib.hid q5; clear q5; have H_q6 := Lib.hid q6; clear q6; have H_q7 := Lib.hid q7; clear q7; have H_bb0 := Lib.hid bb0; clear bb0; have H_hk := Lib.hid hk; clear hk; have H_ho := Lib.hid ho; clear ho; have H_ht := Lib.hid ht; clear ht; have H_hl := Lib.hid hl; clear hl; have H_l0 := Lib.hid l0; clear l0; have H_m0 := Lib.hid m0; clear m0; have H_t0 := Lib.hid t0; clear t0; have H_hlw := Lib.hid hlw; clear hlw; have H_hm := Lib.hid hm; clear hm; have H_hmw := Lib.hid hmw; clear hmw; have H_hlaw := Lib.hid hlaw; clear hlaw; have H_hsame := Lib.hid hsame; clear hsame; have H_hE := Lib.hid hE; clear hE; have H_hF := Lib.hid hF; clear hF; have H_hS := Lib.hid hS; clear hS; have H_hT := Lib.hid hT; clear hT; have H_hq := Lib.hid hq; clear hq
  go_enter Tryd.func7, Tryd.ntmps7
  go_wp2_with fail
  refine H_q1.out.mono ?_
  rintro e w1 ⟨rfl, b1⟩
  have s1 := b1.size
  (try simp only [World.size_alloc, World.heap_drewN, World.size_setCell, heap_drew] at s1)
  have bb1 := H_bb0.out.trans (b1.mono (by first | omega | (simp; omega)))
  have l1 := H_l0.out.below b1
  have m1 := H_m0.out.below b1
  have t1 := H_t0.out.below b1
  have H_b1 := Lib.hid b1; clear b1; have H_bb1 := Lib.hid bb1; clear bb1; have H_l1 := Lib.hid l1; clear l1; have H_m1 := Lib.hid m1; clear m1; have H_t1 := Lib.hid t1; clear t1
  have p2 := H_q2.out w1
  have p3 := H_q3.out w1
  have p4 := H_q4.out w1 H_l1.out
  have p6 := H_q6.out w1 (H_l1.out.take 20) H_t1.out
  generalize (l.take 20).length = N1 at *
  generalize (m.take 20).length = N2 at *
  have H_p2 := Lib.hid p2; clear p2; have H_p3 := Lib.hid p3; clear p3; have H_p4 := Lib.hid p4; clear p4; have H_p6 := Lib.hid p6; clear p6
  go_wp2_with fail
  refine H_p2.out.mono ?_
  rintro e w_ ⟨rfl, rfl⟩
  go_wp2_with fail
  refine H_p3.out.mono ?_
  rintro e w_ ⟨rfl, rfl⟩
  go_wp2_with fail
  refine H_p4.out.mono ?_
  rintro e w_ ⟨rfl, rfl⟩
  go_wp2_with fail
  refine H_p6.out.mono ?_
  rintro e w2 ⟨rfl, b2⟩
  have s2 := b2.size
  (try simp only [World.size_alloc, World.heap_drewN, World.size_setCell, heap_drew] at s2)
  have bb2 := H_bb1.out.trans (b2.mono (by first | omega | (simp; omega)))
  have m2 := H_m1.out.below b2
  have t2 := H_t1.out.below b2
  have H_b2 := Lib.hid b2; clear b2; have H_bb2 := Lib.hid bb2; clear bb2; have H_m2 := Lib.hid m2; clear m2; have H_t2 := Lib.hid t2; clear t2
  have bx : Below w2.heap.size w2 (w2.alloc (.cells #[.int .i64 E1, .int .i64 S1] 23)) := (Below.refl _ _).alloc (Nat.le_refl _) _
  have mx := H_m2.out.below bx
  have p7 := H_q7.out _ (mx.take 20) (H_t2.out.below bx)
  have p5 := H_q5.out _ mx
  have H_p7 := Lib.hid p7; clear p7; have H_p5 := Lib.hid p5; clear p5; have H_bx := Lib.hid bx; clear bx; have H_mx := Lib.hid mx; clear mx
  go_wp2_with fail
  refine (H_q2.out _).mono ?_
  rintro e w_ ⟨rfl, rfl⟩
  go_wp2_with fail
  refine (H_q3.out _).mono ?_
  rintro e w_ ⟨rfl, rfl⟩
  go_wp2_with fail
  refine H_p5.out.mono ?_
  rintro e w_ ⟨rfl, rfl⟩
  go_wp2_with fail
  refine H_p7.out.mono ?_
  rintro e w3 ⟨rfl, b3⟩
  have s3 := b3.size
  simp only [World.size_alloc] at s3
  have bb3 := H_bb2.out.trans ((H_bx.out.trans (b3.mono (by simp))).mono (by omega))
  have k0 := keepc b3 (b := w2.heap.size) (o := 0) (by simp) (by go_simp; rfl)
  have k1 := keepc b3 (b := w2.heap.size) (o := 1) (by simp) (by go_simp; rfl)
  have hne : w2.heap.size < w3.heap.size := by omega
  have H_b3 := Lib.hid b3; clear b3; have H_bb3 := Lib.hid bb3; clear bb3
  by_cases h : E1 = E2
  · have hs2 := H_hsame.out h
    subst h
    subst hs2
    have e1 : ((E1 : Int) == (E1 : Int)) = true := by simp
    have e2 : ((S1 : Int) == (S1 : Int)) = true := by simp
    go_wp2_with fail
    go_ret
    exact ⟨rfl, H_bb3.out.alloc (by omega) _⟩
  · have e1 : ((E1 : Int) == (E2 : Int)) = false := by rw [beq_eq_false_iff_ne]; omega
    have hq := H_hq.out
    have hE := H_hE.out; have hF := H_hF.out; have hS := H_hS.out; have hT := H_hT.out
    have hlw2 := H_hlaw.out h
    obtain ⟨D, hD⟩ : ∃ D : Nat, ((E1 : Int) - E2 + 1073741789) % 1073741789 = D := ⟨(((E1 : Int) - E2 + 1073741789) % 1073741789).toNat, by omega⟩
    obtain ⟨T, hTT⟩ : ∃ T : Nat, ((S1 : Int) - S2 + 1073741789) % 1073741789 = T := ⟨(((S1 : Int) - S2 + 1073741789) % 1073741789).toNat, by omega⟩
    rw [hD, hTT, Int.toNat_natCast] at hlw2
    have hDl : D < 1073741789 := by omega
    have hTl : T < 1073741789 := by omega
    have hI := pw_lt (a := D) (x := QQ - 2) (m := QQ) (by decide)
    have q8 : ∀ W, Calls Tryd.prog 29 #[.int .i64 D, .int .i64 1073741787, .int .i64 1073741789] W fun e w' => e = .returned (.int .i64 (pw D (QQ - 2) QQ : Nat)) ∧ W = w' := fun W => rpower_any D 1073741787 1073741789 W (by omega) (by omega) hDl (by omega)
    generalize pw D (QQ - 2) QQ = I at *
    have hm := mul_le62 (n := T) (b := I) (m := 1073741789) (by omega) hTl (by omega)
    have hz1 : (S1 : Int) ≤ 1073741789 := by omega
    have hz2 : (S2 : Int) ≤ 1073741789 := by omega
    have hz3 : (E1 : Int) ≤ 1073741789 := by omega
    have hz4 : (E2 : Int) ≤ 1073741789 := by omega
    have z1 : IntKind.i64.wrap ((S1 : Int) - S2) = (S1 : Int) - S2 := IntWalk.i64_in _ (by omega)
    have z2 : IntKind.i64.wrap ((S1 : Int) - S2 + 1073741789) = (S1 : Int) - S2 + 1073741789 := IntWalk.i64_in _ (by omega)
    have z3 : ((S1 : Int) - S2 + 1073741789).tmod 1073741789 = (T : Int) := by rw [Int.tmod_eq_emod_of_nonneg (by omega)]; exact hTT
    have z4 : IntKind.i64.wrap ((T : Int) * (I : Int)) = (T : Int) * (I : Int) := IntWalk.i64_in _ (by omega)
    have z5 : ((T : Int) * (I : Int)).tmod 1073741789 = K := by rw [Int.tmod_eq_emod_of_nonneg hm.1]; exact hlw2
    have bw := H_bb3.out.alloc (o := .cells #[.int .i64 E2, .int .i64 S2] 23) (by omega)
    have c0 : (w3.alloc (.cells #[.int .i64 E2, .int .i64 S2] 23)).cell? ⟨w3.heap.size, 0, none⟩ = some (.int .i64 E2) := by rw [cell_of_row _ _ _ _ _ _ (heap_alloc_new w3 _)]; rfl
    have c1 : (w3.alloc (.cells #[.int .i64 E2, .int .i64 S2] 23)).cell? ⟨w3.heap.size, 1, none⟩ = some (.int .i64 S2) := by rw [cell_of_row _ _ _ _ _ _ (heap_alloc_new w3 _)]; rfl
    have c2 := keepc ((Below.refl w3.heap.size w3).alloc (o := .cells #[.int .i64 E2, .int .i64 S2] 23) (Nat.le_refl _)) (b := w2.heap.size) (o := 0) hne k0
    have c3 := keepc ((Below.refl w3.heap.size w3).alloc (o := .cells #[.int .i64 E2, .int .i64 S2] 23) (Nat.le_refl _)) (b := w2.heap.size) (o := 1) hne k1
    have sz : w3.heap.size < (w3.alloc (.cells #[.int .i64 E2, .int .i64 S2] 23)).heap.size := by simp
    clear hq hE hF hS hT hDl hTl hI
    have H_h := Lib.hid h; clear h; have H_hlw2 := Lib.hid hlw2; clear hlw2; have H_hTT := Lib.hid hTT; clear hTT; have H_q8 := Lib.hid q8; clear q8; have H_hm := Lib.hid hm; clear hm; have H_z1 := Lib.hid z1; clear z1; have H_z2 := Lib.hid z2; clear z2; have H_z3 := Lib.hid z3; clear z3; have H_z4 := Lib.hid z4; clear z4; have H_z5 := Lib.hid z5; clear z5; have H_bw := Lib.hid bw; clear bw; have H_c0 := Lib.hid c0; clear c0; have H_c1 := Lib.hid c1; clear c1; have H_c2 := Lib.hid c2; clear c2; have H_c3 := Lib.hid c3; clear c3; have H_sz := Lib.hid sz; clear sz
    go_wp2_with fail
    obtain ⟨w4, hw4⟩ : ∃ w4, w3.alloc (.cells #[.int .i64 E2, .int .i64 S2] 23) = w4 := ⟨_, rfl⟩
    rw [hw4]
    have gw4 := H_bw.out
    have c0 := H_c0.out; have c1 := H_c1.out; have c2 := H_c2.out; have c3 := H_c3.out
    have sz := H_sz.out
    rw [hw4] at gw4 c0 c1 c2 c3 sz
    have sz2 : w2.heap.size < w4.heap.size := by omega
    have z1 := H_z1.out; have z2 := H_z2.out; have z3 := H_z3.out; have z4 := H_z4.out; have z5 := H_z5.out
    have H_hw4 := Lib.hid hw4; clear hw4
    clear H_bw H_c0 H_c1 H_c2 H_c3 H_sz k0 k1
    go_region_held3 (fun W => (∀ b o, b < w4.heap.size → W.cell? ⟨b, o, none⟩ = w4.cell? ⟨b, o, none⟩) ∧ Below w4.heap.size w4 W) (first | (refine ext_mk ?_; (repeat (first | with_reducible exact Below.refl _ _ | with_reducible exact Nat.le_refl _ | with_reducible assumption | with_reducible refine Below.drew ?_ | with_reducible refine below_drewN ?_ _ | with_reducible refine Below.alloc ?_ ?_ _ | with_reducible refine Below.setCell ?_ ?_ _ | with_reducible exact And.right (by assumption) | with_reducible refine Below.trans ?_ (Below.mono (by assumption) ?_) | with_reducible exact Below.size (And.right (by assumption)) | (focus omega) | (focus (simp; done)) | (focus (simp; omega)) | (focus (simp at *; omega)))))) (first | (go_at_call 29; refine (H_q8.out _).mono ?_; rintro e w5 ⟨rfl, rfl⟩))
    all_goals
      clear z1 z2 z3 z4 z5
      have hkk : (K == K) = true := by simp
      go_wp2_with fail
      refine (H_q2.out _).mono ?_
      rintro e w_ ⟨rfl, rfl⟩
      go_wp2_with fail
      go_ret
      exact ⟨rfl, held_end gw4 (by assumption)⟩
end Go.Proofs.YtncfilbpgomncaaDoor

/- The walk of SignMatchesReference. -/
import Derived.Test.YtncfilbpgomncaaDoorSgW
namespace Go.Proofs.YtncfilbpgomncaaDoor
set_option linter.unusedSimpArgs false
set_option linter.unusedVariables false
set_option maxRecDepth 100000
open Go.RowKit

set_option maxHeartbeats 4000000 in
theorem signMatches_walk (a x o e s : Int) (A : Option Addr) (c : Nat) (l : List Int) (w : World) (ha : (Lit.int .i64 a).wf = true) (hx : (Lit.int .i64 x).wf = true) (ho : (Lit.int .i64 o).wf = true) (he : (Lit.int .i64 e).wf = true) (hs : (Lit.int .i64 s).wf = true)
    (hl : IntsAt w A .i64 l) (hlc : l.length ≤ c) (hcm : c ≤ maxLen) (hlw : ∀ n ∈ l, (Lit.int .i64 n).wf = true) (ht : Tab w) :
    Calls Tryd.prog 3 #[.int .i64 a, .int .i64 x, .int .i64 o, .agg #[.int .i64 e, .int .i64 s], .slice A l.length c] w fun r w' => r = .returned (.bool true) ∧ Below w.heap.size w w' := by
  unfold maxLen at hcm
  have bw : Below w.heap.size w (w.alloc (.cells #[.int .i64 e, .int .i64 s] 23)) := (Below.refl _ _).alloc (Nat.le_refl _) _
  have k0 : (w.alloc (.cells #[.int .i64 e, .int .i64 s] 23)).cell? ⟨w.heap.size, 0, none⟩ = some (.int .i64 e) := by rw [cell_of_row _ _ _ _ _ _ (heap_alloc_new w _)]; rfl
  have k1 : (w.alloc (.cells #[.int .i64 e, .int .i64 s] 23)).cell? ⟨w.heap.size, 1, none⟩ = some (.int .i64 s) := by rw [cell_of_row _ _ _ _ _ _ (heap_alloc_new w _)]; rfl
  have sz : w.heap.size < (w.alloc (.cells #[.int .i64 e, .int .i64 s] 23)).heap.size := by simp
  have l0 := hl.below bw
  have t0 := ht.below bw
  have hf := fit_take (fit_of hlw) 20
  have n1 : (l.take 20).length ≤ 20 := by simp; omega
  have q1 := head5_any _ t0
  have q2 := fun W (hW : IntsAt W A .i64 l) => lfew_any A c l W hW hlc (by omega)
  have q3 := fun W => member_any a W
  have q4 := fun W => rmember_any a W
  have q5 := fun W => exp_all a x W
  have q6 := fun W => rexp_all a x W
  have q7 := fun W => public_all x W
  have q8 := fun W => rpublic_all x W
  have q9 := fun W (h : IntsAt W A .i64 (l.take 20)) h2 => sign_all x o A c (l.take 20).length (l.take 20) rfl W h (by omega) hf h2
  have q10 := fun W (h : IntsAt W A .i64 (l.take 20)) => rsign_all x o A c (l.take 20).length (l.take 20) rfl W h (by omega) hf
  have q11 := fun W (h : IntsAt W A .i64 (l.take 20)) h2 => verify_all a e s A c (l.take 20).length (l.take 20) rfl W h (by omega) hf h2
  have q12 := fun W (h : IntsAt W A .i64 (l.take 20)) => rverify_all a e s A c (l.take 20).length (l.take 20) rfl W h (by omega) hf
  have m0 := l0.take 20
  generalize memZ a = M at *
  generalize expV a x = V at *
  generalize errV (M && wthB x 0) = V2 at *
  generalize pubV x = P at *
  generalize errV (wthB x 1) = P2 at *
  generalize sgnE x o (l.take 20) = S1 at *
  generalize sgnS x o (l.take 20) = S2 at *
  generalize errV (wthB x 1 && wthB o 1) = S3 at *
  generalize verV a e s (l.take 20) = R1 at *
  generalize errV (okB a e s) = R2 at *
  generalize hNN : (l.take 20).length = N at *
  have b1 : (M == M) = true := by simp
  have b2 : (V == V) = true := by simp
  have b3 : (V2 == V2) = true := by simp
  have b4 : (P == P) = true := by simp
  have b5 : (P2 == P2) = true := by simp
  have b6 : (S1 == S1) = true := by simp
  have b7 : (S2 == S2) = true := by simp
  have b8 : (S3 == S3) = true := by simp
  have b9 : (R1 == R1) = true := by simp
  have b10 : (R2 == R2) = true := by simp
  obtain ⟨w0, hw0⟩ : ∃ w0, w.alloc (.cells #[.int .i64 e, .int .i64 s] 23) = w0 := ⟨_, rfl⟩
  have bb0 := Below.refl w0.heap.size w0
  rw [hw0] at bw k0 k1 sz l0 t0 q1 m0
  have H_bw := Lib.hid bw; clear bw; have H_k0 := Lib.hid k0; clear k0; have H_k1 := Lib.hid k1; clear k1; have H_l0 := Lib.hid l0; clear l0; have H_t0 := Lib.hid t0; clear t0; have H_hf := Lib.hid hf; clear hf; have H_q1 := Lib.hid q1; clear q1; have H_q2 := Lib.hid q2; clear q2; have H_q3 := Lib.hid q3; clear q3; have H_q4 := Lib.hid q4; clear q4; have H_q5 := Lib.hid q5; clear q5; have H_q6 := Lib.hid q6; clear q6; have H_q7 := Lib.hid q7; clear q7; have H_q8 := Lib.hid q8; clear q8; have H_q9 := Lib.hid q9; clear q9; have H_q10 := Lib.hid q10; clear q10; have H_q11 := Lib.hid q11; clear q11; have H_q12 := Lib.hid q12; clear q12; have H_m0 := Lib.hid m0; clear m0; have H_hNN := Lib.hid hNN; clear hNN; have H_hw0 := Lib.hid hw0; clear hw0; have H_bb0 := Lib.hid bb0; clear bb0; have H_hl := Lib.hid hl; clear hl; have H_hlw := Lib.hid hlw; clear hlw; have H_ht := Lib.hid ht; clear ht; have H_ha := Lib.hid ha; clear ha; have H_hx := Lib.hid hx; clear hx; have H_ho := Lib.hid ho; clear ho; have H_he := Lib.hid he; clear he; have H_hs := Lib.hid hs; clear hs
  go_enter Tryd.func3, Tryd.ntmps3
  go_wp2_with fail
  rw [H_hw0.out]
  refine H_q1.out.mono ?_
  rintro r w1 ⟨rfl, b1'⟩
  have s1 := b1'.size
  have bb1 := H_bb0.out.trans b1'
  have l1 := H_l0.out.below b1'
  have m1 := H_m0.out.below b1'
  have t1 := H_t0.out.below b1'
  have p2 := H_q2.out w1 l1
  have p3 := H_q3.out w1
  have H_b1' := Lib.hid b1'; clear b1'; have H_bb1 := Lib.hid bb1; clear bb1; have H_l1 := Lib.hid l1; clear l1; have H_m1 := Lib.hid m1; clear m1; have H_t1 := Lib.hid t1; clear t1; have H_p2 := Lib.hid p2; clear p2; have H_p3 := Lib.hid p3; clear p3
  go_wp2_with fail
  refine H_p2.out.mono ?_
  rintro e w_ ⟨rfl, rfl⟩
  go_wp2_with fail
  refine H_p3.out.mono ?_
  rintro e w2 ⟨rfl, b2⟩
  have s2 := b2.size
  (try simp only [World.size_alloc, World.heap_drewN, World.size_setCell, heap_drew] at s2)
  have bb2 := H_bb1.out.trans (b2.mono (by first | omega | (simp; omega)))
  have m2 := H_m1.out.below b2
  have t2 := H_t1.out.below b2
  have H_b2 := Lib.hid b2; clear b2; have H_bb2 := Lib.hid bb2; clear bb2; have H_m2 := Lib.hid m2; clear m2; have H_t2 := Lib.hid t2; clear t2
  have p4 := H_q4.out w2
  have p5 := H_q5.out w2
  have H_p4 := Lib.hid p4; clear p4; have H_p5 := Lib.hid p5; clear p5
  go_wp2_with fail
  refine H_p4.out.mono ?_
  rintro e w_ ⟨rfl, rfl⟩
  go_wp2_with fail
  refine H_p5.out.mono ?_
  rintro e w3 ⟨rfl, b3⟩
  have s3 := b3.size
  (try simp only [World.size_alloc, World.heap_drewN, World.size_setCell, heap_drew] at s3)
  have bb3 := H_bb2.out.trans (b3.mono (by first | omega | (simp; omega)))
  have m3 := H_m2.out.below b3
  have t3 := H_t2.out.below b3
  have H_b3 := Lib.hid b3; clear b3; have H_bb3 := Lib.hid bb3; clear bb3; have H_m3 := Lib.hid m3; clear m3; have H_t3 := Lib.hid t3; clear t3
  have p6 := H_q6.out w3
  have p7 := H_q7.out w3
  have H_p6 := Lib.hid p6; clear p6; have H_p7 := Lib.hid p7; clear p7
  go_wp2_with fail
  refine H_p6.out.mono ?_
  rintro e w_ ⟨rfl, rfl⟩
  go_wp2_with fail
  refine H_p7.out.mono ?_
  rintro e w4 ⟨rfl, b4⟩
  have s4 := b4.size
  (try simp only [World.size_alloc, World.heap_drewN, World.size_setCell, heap_drew] at s4)
  have bb4 := H_bb3.out.trans (b4.mono (by first | omega | (simp; omega)))
  have m4 := H_m3.out.below b4
  have t4 := H_t3.out.below b4
  have H_b4 := Lib.hid b4; clear b4; have H_bb4 := Lib.hid bb4; clear bb4; have H_m4 := Lib.hid m4; clear m4; have H_t4 := Lib.hid t4; clear t4
  have p8 := H_q8.out w4
  have p9 := H_q9.out w4 H_m4.out H_t4.out
  have H_p8 := Lib.hid p8; clear p8; have H_p9 := Lib.hid p9; clear p9
  go_wp2_with fail
  refine H_p8.out.mono ?_
  rintro e w_ ⟨rfl, rfl⟩
  go_wp2_with fail
  refine H_p9.out.mono ?_
  rintro e w5 ⟨rfl, b5⟩
  have s5 := b5.size
  (try simp only [World.size_alloc, World.heap_drewN, World.size_setCell, heap_drew] at s5)
  have bb5 := H_bb4.out.trans (b5.mono (by first | omega | (simp; omega)))
  have m5 := H_m4.out.below b5
  have t5 := H_t4.out.below b5
  have H_b5 := Lib.hid b5; clear b5; have H_bb5 := Lib.hid bb5; clear bb5; have H_m5 := Lib.hid m5; clear m5; have H_t5 := Lib.hid t5; clear t5
  have bx : Below w5.heap.size w5 (w5.alloc (.cells #[.int .i64 S1, .int .i64 S2] 23)) := (Below.refl _ _).alloc (Nat.le_refl _) _
  have mx := H_m5.out.below bx
  have p10 := H_q10.out _ mx
  have H_bx := Lib.hid bx; clear bx; have H_mx := Lib.hid mx; clear mx; have H_p10 := Lib.hid p10; clear p10
  go_wp2_with fail
  refine H_p10.out.mono ?_
  rintro r w6 ⟨rfl, b6'⟩
  have s6 := b6'.size
  simp only [World.size_alloc] at s6
  have bx6 := H_bx.out.trans (b6'.mono (by simp))
  have bb6 := H_bb5.out.trans (bx6.mono (by omega))
  have g0 := keepc b6' (b := w5.heap.size) (o := 0) (by simp) (by go_simp; rfl)
  have g1 := keepc b6' (b := w5.heap.size) (o := 1) (by simp) (by go_simp; rfl)
  have hne : w5.heap.size < w6.heap.size := by omega
  have by_ : Below w6.heap.size w6 (w6.alloc (.cells #[.int .i64 S1, .int .i64 S2] 23)) := (Below.refl _ _).alloc (Nat.le_refl _) _
  have m7 := (H_m5.out.below bx6).below by_
  have t7 := (H_t5.out.below bx6).below by_
  have bb7 := bb6.trans (by_.mono (by omega))
  have c0 := keepc bb7 (b := w.heap.size) (o := 0) sz H_k0.out
  have c1 := keepc bb7 (b := w.heap.size) (o := 1) sz H_k1.out
  have p11 := H_q11.out _ m7 t7
  have H_b6' := Lib.hid b6'; clear b6'; have H_bx6 := Lib.hid bx6; clear bx6; have H_bb6 := Lib.hid bb6; clear bb6; have H_by_ := Lib.hid by_; clear by_; have H_m7 := Lib.hid m7; clear m7; have H_t7 := Lib.hid t7; clear t7; have H_bb7 := Lib.hid bb7; clear bb7; have H_p11 := Lib.hid p11; clear p11
  go_wp2_with fail
  refine H_p11.out.mono ?_
  rintro r w8 ⟨rfl, b8⟩
  have s8 := b8.size
  simp only [World.size_alloc] at s8
  have bb8 := H_bb7.out.trans (b8.mono (by simp; omega))
  have c0 := keepc bb8 (b := w.heap.size) (o := 0) sz H_k0.out
  have c1 := keepc bb8 (b := w.heap.size) (o := 1) sz H_k1.out
  have p12 := H_q12.out _ (H_m7.out.below b8)
  have H_b8 := Lib.hid b8; clear b8; have H_bb8 := Lib.hid bb8; clear bb8; have H_p12 := Lib.hid p12; clear p12
  go_wp2_with fail
  refine H_p12.out.mono ?_
  rintro r w9 ⟨rfl, b9'⟩
  have bb9 := H_bb8.out.trans (b9'.mono (by omega))
  have fin := H_bw.out.trans (bb9.mono (by omega))
  have H_b9' := Lib.hid b9'; clear b9'; have H_bb9 := Lib.hid bb9; clear bb9; have H_fin := Lib.hid fin; clear fin
  go_wp2_with fail
  go_ret
  exact ⟨rfl, H_fin.out⟩
end Go.Proofs.YtncfilbpgomncaaDoor

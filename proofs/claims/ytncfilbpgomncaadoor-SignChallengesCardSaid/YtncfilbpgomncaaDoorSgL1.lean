/- The walks of SignSecrets, SignRight, SignGroup. -/
import Derived.Test.YtncfilbpgomncaaDoorSgH
namespace Go.Proofs.YtncfilbpgomncaaDoor
set_option linter.unusedSimpArgs false
set_option linter.unusedVariables false
set_option maxRecDepth 100000
open Go.RowKit

theorem fit_of {l : List Int} (h : ∀ n ∈ l, (Lit.int .i64 n).wf = true) : Fit l := fun x hx => wf_i64 (h x hx)
theorem fit_take {l : List Int} (h : Fit l) (n : Nat) : Fit (l.take n) := fun x hx => h x (List.mem_of_mem_take hx)
theorem nat_beq (a b : Nat) : ((a : Int) == (b : Int)) = (a == b) := by rw [Bool.eq_iff_iff, beq_iff_eq, beq_iff_eq]; omega

set_option maxHeartbeats 4000000 in
theorem signSecrets_walk (k o : Int) (w : World) (hk : (Lit.int .u64 k).wf = true) (ho : (Lit.int .u64 o).wf = true) (ht : Tab w) :
    Calls Tryd.prog 8 #[.int .u64 k, .int .u64 o] w fun e w' => e = .returned (.bool true) ∧ Below w.heap.size w w' := by
  have q1 := head5_any w ht
  have q2 := fun W => secret_any k W (wf_u64 hk)
  have q3 := fun W => secret_any o W (wf_u64 ho)
  have q4 := fun W => public_yes (secN k) W (secN_wth k)
  have q5 := fun W => public_yes (secN o) W (secN_wth o)
  have hlaw : (((pw 4 (secN k) PP : Nat) : Int) == ((pw 4 (secN o) PP : Nat) : Int)) = (((secN k : Nat) : Int) == ((secN o : Nat) : Int)) := by
    rw [nat_beq, nat_beq, Bool.eq_iff_iff, beq_iff_eq, beq_iff_eq]; exact secret_inj (secN_lt k) (secN_lt o)
  generalize ((pw 4 (secN k) PP : Nat) : Int) = A at *
  generalize ((pw 4 (secN o) PP : Nat) : Int) = B at *
  generalize hZ : (((secN k : Nat) : Int) == ((secN o : Nat) : Int)) = Z at *
  generalize ((secN k : Nat) : Int) = K at *
  generalize ((secN o : Nat) : Int) = O at *
  have hzz : (Z == Z) = true := by simp
  have bb0 := Below.refl w.heap.size w
  have H_q1 := Lib.hid q1; clear q1; have H_q2 := Lib.hid q2; clear q2; have H_q3 := Lib.hid q3; clear q3; have H_q4 := Lib.hid q4; clear q4; have H_q5 := Lib.hid q5; clear q5; have H_bb0 := Lib.hid bb0; clear bb0; have H_hk := Lib.hid hk; clear hk; have H_ho := Lib.hid ho; clear ho; have H_ht := Lib.hid ht; clear ht
  go_enter Tryd.func8, Tryd.ntmps8
  go_wp2_with fail
  refine H_q1.out.mono ?_
  rintro e w1 ⟨rfl, b1⟩
  have s1 := b1.size
  (try simp only [World.size_alloc, World.heap_drewN, World.size_setCell, heap_drew] at s1)
  have bb1 := H_bb0.out.trans (b1.mono (by first | omega | (simp; omega)))
  have H_b1 := Lib.hid b1; clear b1; have H_bb1 := Lib.hid bb1; clear bb1
  have p2 := H_q2.out w1
  have p4 := H_q4.out w1
  have H_p2 := Lib.hid p2; clear p2; have H_p4 := Lib.hid p4; clear p4
  go_wp2_with fail
  refine H_p2.out.mono ?_
  rintro e w_ ⟨rfl, rfl⟩
  go_wp2_with fail
  refine H_p4.out.mono ?_
  rintro e w2 ⟨rfl, b2⟩
  have s2 := b2.size
  (try simp only [World.size_alloc, World.heap_drewN, World.size_setCell, heap_drew] at s2)
  have bb2 := H_bb1.out.trans (b2.mono (by first | omega | (simp; omega)))
  have H_b2 := Lib.hid b2; clear b2; have H_bb2 := Lib.hid bb2; clear bb2
  have p3 := H_q3.out w2
  have p5 := H_q5.out w2
  have H_p3 := Lib.hid p3; clear p3; have H_p5 := Lib.hid p5; clear p5
  go_wp2_with fail
  refine H_p3.out.mono ?_
  rintro e w_ ⟨rfl, rfl⟩
  go_wp2_with fail
  refine H_p5.out.mono ?_
  rintro e w3 ⟨rfl, b3⟩
  have s3 := b3.size
  (try simp only [World.size_alloc, World.heap_drewN, World.size_setCell, heap_drew] at s3)
  have bb3 := H_bb2.out.trans (b3.mono (by first | omega | (simp; omega)))
  have H_b3 := Lib.hid b3; clear b3; have H_bb3 := Lib.hid bb3; clear bb3
  have p6 := H_q2.out w3
  have p7 := H_q3.out w3
  have H_p6 := Lib.hid p6; clear p6; have H_p7 := Lib.hid p7; clear p7
  go_wp2_with fail
  refine H_p6.out.mono ?_
  rintro e w_ ⟨rfl, rfl⟩
  go_wp2_with fail
  refine H_p7.out.mono ?_
  rintro e w_ ⟨rfl, rfl⟩
  go_wp2_with fail
  go_ret
  exact ⟨rfl, H_bb3.out⟩

set_option maxHeartbeats 4000000 in
theorem signRight_walk (k o : Int) (A : Option Addr) (c : Nat) (l : List Int) (w : World) (hk : (Lit.int .u64 k).wf = true) (ho : (Lit.int .u64 o).wf = true)
    (hl : IntsAt w A .i64 l) (hlc : l.length ≤ c) (hcm : c ≤ maxLen) (hlw : ∀ n ∈ l, (Lit.int .i64 n).wf = true) (ht : Tab w) :
    Calls Tryd.prog 5 #[.int .u64 k, .int .u64 o, .slice A l.length c] w fun e w' => e = .returned (.bool true) ∧ Below w.heap.size w w' := by
  unfold maxLen at hcm
  have q1 := head5_any w ht
  have q2 := fun W => secret_any k W (wf_u64 hk)
  have q3 := fun W => secret_any o W (wf_u64 ho)
  have q4 := fun W => public_yes (secN k) W (secN_wth k)
  have q5 := fun W (hW : IntsAt W A .i64 l) => lfew_any A c l W hW hlc (by omega)
  have hm : (l.take 20).length ≤ 20 := by simp; omega
  have q6 := fun W (h1 : IntsAt W A .i64 (l.take 20)) h2 => sign_yes (secN k) (secN o) A c (l.take 20).length (l.take 20) rfl W (secN_wth k) (secN_wth o) h1 (by omega) (fit_take (fit_of hlw) 20) h2
  have hws := wth_sig (s := secN k) (o := secN o) (l := l.take 20)
  have q7 := fun W (h1 : IntsAt W A .i64 (l.take 20)) h2 => verify_yes (pw 4 (secN k) PP) _ _ A c (l.take 20).length (l.take 20) rfl W memZ_pw hws.1 hws.2 h1 (by omega) (fit_take (fit_of hlw) 20) h2
  rw [right_law] at q7
  generalize sigE (secN k) (secN o) (l.take 20) = E at *
  generalize sigS (secN k) (secN o) (l.take 20) = S at *
  generalize ((pw 4 (secN k) PP : Nat) : Int) = P at *
  generalize ((secN k : Nat) : Int) = K at *
  generalize ((secN o : Nat) : Int) = O at *
  have l0' := hl.take 20
  generalize hLL : (l.take 20).length = N at *
  have bb0 := Below.refl w.heap.size w
  have l0 := hl
  have m0 := l0'
  have t0 := ht
  have H_q1 := Lib.hid q1; clear q1; have H_q2 := Lib.hid q2; clear q2; have H_q3 := Lib.hid q3; clear q3; have H_q4 := Lib.hid q4; clear q4; have H_q5 := Lib.hid q5; clear q5; have H_q6 := Lib.hid q6; clear q6; have H_q7 := Lib.hid q7; clear q7; have H_bb0 := Lib.hid bb0; clear bb0; have H_hk := Lib.hid hk; clear hk; have H_ho := Lib.hid ho; clear ho; have H_ht := Lib.hid ht; clear ht; have H_hl := Lib.hid hl; clear hl; have H_l0 := Lib.hid l0; clear l0; have H_m0 := Lib.hid m0; clear m0; have H_t0 := Lib.hid t0; clear t0; have H_l0' := Lib.hid l0'; clear l0'; have H_hlw := Lib.hid hlw; clear hlw; have H_hws := Lib.hid hws; clear hws; have H_hLL := Lib.hid hLL; clear hLL
  go_enter Tryd.func5, Tryd.ntmps5
  go_wp2_with fail
  refine H_q1.out.mono ?_
  rintro e w1 ⟨rfl, b1⟩
  have s1 := b1.size
  (try simp only [World.size_alloc, World.heap_drewN, World.size_setCell, heap_drew] at s1)
  have bb1 := H_bb0.out.trans (b1.mono (by first | omega | (simp; omega)))
  have l1 := H_l0.out.below b1
  have m1 := H_m0.out.below b1
  have t1 := H_t0.out.below b1
  have H_b1 := Lib.hid b1; clear b1; have H_bb1 := Lib.hid bb1; clear bb1; have H_l1 := Lib.hid l1; clear l1; have H_m1 := Lib.hid m1; clear m1; have H_t1 := Lib.hid t1; clear t1
  have p5 := H_q5.out w1 H_l1.out
  have p2 := H_q2.out w1
  have p4 := H_q4.out w1
  have H_p5 := Lib.hid p5; clear p5; have H_p2 := Lib.hid p2; clear p2; have H_p4 := Lib.hid p4; clear p4
  go_wp2_with fail
  refine H_p5.out.mono ?_
  rintro e w_ ⟨rfl, rfl⟩
  go_wp2_with fail
  refine H_p2.out.mono ?_
  rintro e w_ ⟨rfl, rfl⟩
  go_wp2_with fail
  refine H_p4.out.mono ?_
  rintro e w2 ⟨rfl, b2⟩
  have s2 := b2.size
  (try simp only [World.size_alloc, World.heap_drewN, World.size_setCell, heap_drew] at s2)
  have bb2 := H_bb1.out.trans (b2.mono (by first | omega | (simp; omega)))
  have m2 := H_m1.out.below b2
  have t2 := H_t1.out.below b2
  have H_b2 := Lib.hid b2; clear b2; have H_bb2 := Lib.hid bb2; clear bb2; have H_m2 := Lib.hid m2; clear m2; have H_t2 := Lib.hid t2; clear t2
  have p2 := H_q2.out w2
  have p3 := H_q3.out w2
  have p6 := H_q6.out w2 H_m2.out H_t2.out
  have H_p2 := Lib.hid p2; clear p2; have H_p3 := Lib.hid p3; clear p3; have H_p6 := Lib.hid p6; clear p6
  go_wp2_with fail
  refine H_p2.out.mono ?_
  rintro e w_ ⟨rfl, rfl⟩
  go_wp2_with fail
  refine H_p3.out.mono ?_
  rintro e w_ ⟨rfl, rfl⟩
  go_wp2_with fail
  refine H_p6.out.mono ?_
  rintro e w3 ⟨rfl, b3⟩
  have s3 := b3.size
  (try simp only [World.size_alloc, World.heap_drewN, World.size_setCell, heap_drew] at s3)
  have bb3 := H_bb2.out.trans (b3.mono (by first | omega | (simp; omega)))
  have m3 := H_m2.out.below b3
  have t3 := H_t2.out.below b3
  have H_b3 := Lib.hid b3; clear b3; have H_bb3 := Lib.hid bb3; clear bb3; have H_m3 := Lib.hid m3; clear m3; have H_t3 := Lib.hid t3; clear t3
  have bx : Below w3.heap.size w3 (w3.alloc (.cells #[.int .i64 E, .int .i64 S] 23)) := (Below.refl _ _).alloc (Nat.le_refl _) _
  have p7 := H_q7.out _ (H_m3.out.below bx) (H_t3.out.below bx)
  have H_p7 := Lib.hid p7; clear p7; have H_bx := Lib.hid bx; clear bx
  go_wp2_with fail
  refine H_p7.out.mono ?_
  rintro e w4 ⟨rfl, b4⟩
  have bb4 := H_bb3.out.trans ((H_bx.out.trans (b4.mono (by simp))).mono (by omega))
  have H_b4 := Lib.hid b4; clear b4; have H_bb4 := Lib.hid bb4; clear bb4
  go_wp2_with fail
  go_ret
  exact ⟨rfl, H_bb4.out⟩
end Go.Proofs.YtncfilbpgomncaaDoor

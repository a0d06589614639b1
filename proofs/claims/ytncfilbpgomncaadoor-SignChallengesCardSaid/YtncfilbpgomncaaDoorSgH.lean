/- The statements about signatures: secret, few, head; what was signed is right. -/
import Derived.Test.YtncfilbpgomncaaDoorSgC
import Derived.Test.YtncfilbpgomncaaDoorOpn1
namespace Go.Proofs.YtncfilbpgomncaaDoor
set_option linter.unusedSimpArgs false
set_option linter.unusedVariables false
set_option maxRecDepth 100000
open Go.RowKit

theorem right_law (s o : Nat) (l : List Int) : rightB (pw 4 s PP) (sigE s o l) (sigS s o l) l = true := by
  rw [rightB, backN, sigS, back_right s o _ (sigE_lt s o l), beq_iff_eq]; rfl
/-- the secret of a number -/
def secN (k : Int) : Nat := 1 + (k % 1073741788).toNat
theorem secN_wth (k : Int) : wthB (secN k) 1 = true := wthB_iff.2 (by unfold secN; omega)
theorem secN_lt (k : Int) : secN k < QQ := by
  have : QQ = 1073741789 := rfl
  unfold secN; omega
theorem secret_any (k : Int) (w : World) (h : 0 ≤ k ∧ k ≤ 18446744073709551615) : Calls Tryd.prog 26 #[.int .u64 k] w fun e w' => e = .returned (.int .i64 (secN k : Nat)) ∧ w = w' := by
  have h0 := h.1
  have e : ((secN k : Nat) : Int) = 1 + k % 1073741788 := by unfold secN; omega
  have H_h := Lib.hid h; clear h; have H_e := Lib.hid e; clear e
  go_enter Tryd.func26, Tryd.ntmps26
  go_wp2_with fail
  go_ret
  exact ⟨ret_int (by rw [H_e.out]), rfl⟩
theorem lfew_any (A : Option Addr) (c : Nat) (l : List Int) (w : World) (hl : IntsAt w A .i64 l) (hc : l.length ≤ c) (hm : c ≤ 9223372036854775807) :
    Calls Tryd.prog 15 #[.slice A l.length c] w fun e w' => e = .returned (.slice A (l.take 20).length c) ∧ w = w' := by
  have hA : A = none → l.length = 0 := fun h => by
    rcases Nat.eq_zero_or_pos l.length with h0 | h0
    · exact h0
    · obtain ⟨b, off, e, _⟩ := hl 0 h0; rw [h] at e; cases e
  have hz := hl
  by_cases h : l.length ≤ 20
  · have e : (l.take 20).length = l.length := by simp; omega
    have i1 : (l.length : Int) ≤ 20 := by omega
    have i2 : min (l.length : Int) 20 = (l.length : Int) := by omega
    have i3 : (0 : Int) ≤ (l.length : Int) := by omega
    have i4 : (l.length : Int) ≤ (c : Int) := by omega
    rw [e]
    cases A with
    | none =>
      have h0 := hA rfl
      have H_hl := Lib.hid hl; clear hl; have H_hA := Lib.hid hA; clear hA; have H_hz := Lib.hid hz; clear hz; have H_e := Lib.hid e; clear e; have H_h := Lib.hid h; clear h
      go_enter Tryd.func15, Tryd.ntmps15
      go_wp2_with fail
      go_ret
      exact ⟨rfl, rfl⟩
    | some a =>
      have H_hl := Lib.hid hl; clear hl; have H_hA := Lib.hid hA; clear hA; have H_hz := Lib.hid hz; clear hz; have H_e := Lib.hid e; clear e; have H_h := Lib.hid h; clear h
      go_enter Tryd.func15, Tryd.ntmps15
      go_wp2_with fail
      go_ret
      exact ⟨rfl, rfl⟩
  · have e : (l.take 20).length = 20 := by simp; omega
    have i1 : ¬ (l.length : Int) ≤ 20 := by omega
    have i2 : min (l.length : Int) 20 = 20 := by omega
    have i4 : (20 : Int) ≤ (c : Int) := by omega
    obtain ⟨b, off, hAe, _⟩ := hl 0 (by omega)
    subst hAe
    rw [e]
    have H_hl := Lib.hid hl; clear hl; have H_hA := Lib.hid hA; clear hA; have H_hz := Lib.hid hz; clear hz; have H_e := Lib.hid e; clear e; have H_h := Lib.hid h; clear h
    go_enter Tryd.func15, Tryd.ntmps15
    go_wp2_with fail
    go_ret
    exact ⟨rfl, rfl⟩

theorem mem4 : memZ 4 = true := memZ_iff.2 ⟨by omega, by omega, four_q⟩
theorem mem9 : memZ 9 = true := memZ_iff.2 ⟨by omega, by omega, by rw [pw_mp 31 (by decide)]; decide +kernel⟩
theorem mem2 : memZ 2 = false := by
  have h : pw 2 QQ PP = PP - 1 := by rw [pw_mp 31 (by decide)]; decide +kernel
  rw [Bool.eq_false_iff]; intro h2
  have := (memZ_iff.1 h2).2.2
  rw [show (2 : Int).toNat = 2 from rfl, h] at this
  exact absurd this (by decide)
theorem mem0 : memZ 0 = false := by rw [Bool.eq_false_iff]; intro h; have := (memZ_iff.1 h).1; omega
theorem pw43 : pw 4 3 PP = 64 := by decide
theorem pw45 : pw 4 5 PP = 1024 := by decide
theorem mem1024 : memZ ((1024 : Nat) : Int) = true := by rw [← pw45]; exact memZ_pw
theorem wth_sig {s o : Nat} {l : List Int} : wthB (sigE s o l) 0 = true ∧ wthB (sigS s o l) 0 = true := by
  have h1 := sigE_lt s o l
  have h2 := sigS_lt s o l
  have : QQ = 1073741789 := rfl
  exact ⟨wthB_iff.2 (by omega), wthB_iff.2 (by omega)⟩

set_option maxHeartbeats 4000000 in
theorem head5_any (w : World) (ht : Tab w) : Calls Tryd.prog 14 #[] w fun e w' => e = .returned (.bool true) ∧ Below w.heap.size w w' := by
  have q1 := exp_yes 4 3 w mem4 (by decide)
  rw [pw43] at q1
  have q2 := fun W => public_yes 5 W (by decide)
  rw [pw45] at q2
  have hr := right_law 5 7 [1, 2]
  rw [pw45] at hr
  have hws := wth_sig (s := 5) (o := 7) (l := [1, 2])
  have f12 : Fit [1, 2] := fit_small (by simp)
  have q3 := fun W X (h1 : IntsAt W X .i64 [1, 2]) h2 => sign_yes 5 7 X 2 2 [1, 2] rfl W (by decide) (by decide) h1 (by omega) f12 h2
  generalize sigE 5 7 [1, 2] = E at *
  generalize sigS 5 7 [1, 2] = S at *
  have q4 := fun W X (h1 : IntsAt W X .i64 [1, 2]) h2 => verify_yes 1024 E S X 2 2 [1, 2] rfl W mem1024 hws.1 hws.2 h1 (by omega) f12 h2
  rw [hr] at q4
  have q5 := fun W => public_no 0 W (by decide)
  have q6 := fun W => member_any 4 W
  have q7 := fun W => member_any 9 W
  have q8 := fun W => member_any 2 W
  have q9 := fun W => member_any 0 W
  rw [mem4] at q6
  rw [mem9] at q7
  rw [mem2] at q8
  rw [mem0] at q9
  have bb0 := Below.refl w.heap.size w
  have t0 := ht
  have H_q1 := Lib.hid q1; clear q1; have H_q2 := Lib.hid q2; clear q2; have H_q3 := Lib.hid q3; clear q3; have H_q4 := Lib.hid q4; clear q4; have H_q5 := Lib.hid q5; clear q5; have H_q6 := Lib.hid q6; clear q6; have H_q7 := Lib.hid q7; clear q7; have H_q8 := Lib.hid q8; clear q8; have H_q9 := Lib.hid q9; clear q9; have H_bb0 := Lib.hid bb0; clear bb0; have H_t0 := Lib.hid t0; clear t0; have H_ht := Lib.hid ht; clear ht; have H_hr := Lib.hid hr; clear hr; have H_hws := Lib.hid hws; clear hws; have H_f12 := Lib.hid f12; clear f12
  go_enter Tryd.func14, Tryd.ntmps14
  go_wp2_with fail
  refine H_q1.out.mono ?_
  rintro e w1 ⟨rfl, b1⟩
  have s1 := b1.size
  (try simp only [World.size_alloc, World.heap_drewN, World.size_setCell, heap_drew] at s1)
  have bb1 := H_bb0.out.trans (b1.mono (by first | omega | (simp; omega)))
  have t1 := H_t0.out.below b1
  have H_b1 := Lib.hid b1; clear b1; have H_bb1 := Lib.hid bb1; clear bb1; have H_t1 := Lib.hid t1; clear t1
  have p2 := H_q2.out w1
  have H_p2 := Lib.hid p2; clear p2
  go_wp2_with fail
  refine H_p2.out.mono ?_
  rintro e w2 ⟨rfl, b2⟩
  have s2 := b2.size
  (try simp only [World.size_alloc, World.heap_drewN, World.size_setCell, heap_drew] at s2)
  have bb2 := H_bb1.out.trans (b2.mono (by first | omega | (simp; omega)))
  have t2 := H_t1.out.below b2
  have H_b2 := Lib.hid b2; clear b2; have H_bb2 := Lib.hid bb2; clear bb2; have H_t2 := Lib.hid t2; clear t2
  have p3 := H_q3.out _ (some ⟨w2.heap.size, 0, none⟩) (ints_lit (w := w2) (E := 3) [1, 2] _ rfl) (H_t2.out.below ((Below.refl _ _).alloc (Nat.le_refl _) _))
  have H_p3 := Lib.hid p3; clear p3
  go_wp2_with fail
  refine H_p3.out.mono ?_
  rintro e w3 ⟨rfl, b3⟩
  have s3 := b3.size
  simp only [World.size_alloc] at s3
  have bb3 := (H_bb2.out.alloc (by omega) _).trans (b3.mono (by simp; omega))
  have t3 := H_t0.out.below bb3
  have bx : Below w3.heap.size w3 ((w3.alloc (.cells #[.int .i64 E, .int .i64 S] 23)).alloc (.cells #[.int .i64 1, .int .i64 2] 3)) := ((Below.refl _ _).alloc (Nat.le_refl _) _).alloc (by simp) _
  have p4 := H_q4.out _ (some ⟨w3.heap.size + 1, 0, none⟩) (ints_lit (w := w3.alloc (.cells #[.int .i64 E, .int .i64 S] 23)) (E := 3) [1, 2] _ (by simp)) (t3.below bx)
  have H_b3 := Lib.hid b3; clear b3; have H_bb3 := Lib.hid bb3; clear bb3; have H_t3 := Lib.hid t3; clear t3; have H_p4 := Lib.hid p4; clear p4; have H_bx := Lib.hid bx; clear bx
  go_wp2_with fail
  refine H_p4.out.mono ?_
  rintro e w4 ⟨rfl, b4⟩
  have s4 := b4.size
  simp only [World.size_alloc] at s4
  have bb4 := H_bb3.out.trans ((H_bx.out.trans (b4.mono (by simp; omega))).mono (by omega))
  have p5 := H_q5.out w4
  have H_b4 := Lib.hid b4; clear b4; have H_bb4 := Lib.hid bb4; clear bb4; have H_p5 := Lib.hid p5; clear p5
  go_wp2_with fail
  refine H_p5.out.mono ?_
  rintro e w5 ⟨rfl, b5⟩
  have s5 := b5.size
  (try simp only [World.size_alloc, World.heap_drewN, World.size_setCell, heap_drew] at s5)
  have bb5 := H_bb4.out.trans (b5.mono (by first | omega | (simp; omega)))
  have H_b5 := Lib.hid b5; clear b5; have H_bb5 := Lib.hid bb5; clear bb5
  have p6 := H_q6.out w5
  have H_p6 := Lib.hid p6; clear p6
  go_wp2_with fail
  refine H_p6.out.mono ?_
  rintro e w6 ⟨rfl, b6⟩
  have s6 := b6.size
  (try simp only [World.size_alloc, World.heap_drewN, World.size_setCell, heap_drew] at s6)
  have bb6 := H_bb5.out.trans (b6.mono (by first | omega | (simp; omega)))
  have H_b6 := Lib.hid b6; clear b6; have H_bb6 := Lib.hid bb6; clear bb6
  have p7 := H_q7.out w6
  have H_p7 := Lib.hid p7; clear p7
  go_wp2_with fail
  refine H_p7.out.mono ?_
  rintro e w7 ⟨rfl, b7⟩
  have s7 := b7.size
  (try simp only [World.size_alloc, World.heap_drewN, World.size_setCell, heap_drew] at s7)
  have bb7 := H_bb6.out.trans (b7.mono (by first | omega | (simp; omega)))
  have H_b7 := Lib.hid b7; clear b7; have H_bb7 := Lib.hid bb7; clear bb7
  have p8 := H_q8.out w7
  have H_p8 := Lib.hid p8; clear p8
  go_wp2_with fail
  refine H_p8.out.mono ?_
  rintro e w8 ⟨rfl, b8⟩
  have s8 := b8.size
  (try simp only [World.size_alloc, World.heap_drewN, World.size_setCell, heap_drew] at s8)
  have bb8 := H_bb7.out.trans (b8.mono (by first | omega | (simp; omega)))
  have H_b8 := Lib.hid b8; clear b8; have H_bb8 := Lib.hid bb8; clear bb8
  have p9 := H_q9.out w8
  have H_p9 := Lib.hid p9; clear p9
  go_wp2_with fail
  refine H_p9.out.mono ?_
  rintro e w9 ⟨rfl, b9⟩
  have s9 := b9.size
  (try simp only [World.size_alloc, World.heap_drewN, World.size_setCell, heap_drew] at s9)
  have bb9 := H_bb8.out.trans (b9.mono (by first | omega | (simp; omega)))
  have H_b9 := Lib.hid b9; clear b9; have H_bb9 := Lib.hid bb9; clear bb9
  go_wp2_with fail
  go_ret
  exact ⟨rfl, H_bb9.out⟩
end Go.Proofs.YtncfilbpgomncaaDoor

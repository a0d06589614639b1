/- The walk of SignGroup. -/
import Derived.Test.YtncfilbpgomncaaDoorSgL1
namespace Go.Proofs.YtncfilbpgomncaaDoor
set_option linter.unusedSimpArgs false
set_option linter.unusedVariables false
set_option maxRecDepth 100000
open Go.RowKit

/-- an exponent of a number -/
def exN (i : Int) : Nat := (i % 1073741789).toNat
theorem exN_eq {i : Int} (h : 0 ≤ i) : i % 1073741789 = (exN i : Int) := by unfold exN; omega
theorem exN_lt (i : Int) : exN i < QQ := by
  have : QQ = 1073741789 := rfl
  unfold exN; omega
theorem wth_lt {x : Nat} (h : x < QQ) : wthB x 0 = true := wthB_iff.2 (by have : QQ = 1073741789 := rfl; omega)

set_option maxHeartbeats 4000000 in
theorem signGroup_walk (k i j : Int) (w : World) (hk : (Lit.int .u64 k).wf = true) (hi : (Lit.int .u64 i).wf = true) (hj : (Lit.int .u64 j).wf = true) (ht : Tab w) :
    Calls Tryd.prog 4 #[.int .u64 k, .int .u64 i, .int .u64 j] w fun e w' => e = .returned (.bool true) ∧ Below w.heap.size w w' := by
  have hi0 := (wf_u64 hi).1
  have hj0 := (wf_u64 hj).1
  have q1 := head5_any w ht
  have q2 := fun W => secret_any k W (wf_u64 hk)
  have q3 := fun W => public_yes (secN k) W (secN_wth k)
  have hq : QQ = 1073741789 := rfl
  have hx := exN_lt i
  have hy := exN_lt j
  have ex := exN_eq hi0
  have ey := exN_eq hj0
  have ha : pw (pw 4 (secN k) PP) QQ PP = 1 := (memB_iff.1 (mem_pw four_q _)).2.2
  have ma : memZ ((pw 4 (secN k) PP : Nat) : Int) = true := memZ_pw
  have toZ : ∀ n : Nat, memB n = true → memZ (n : Int) = true := fun n h => by
    obtain ⟨h1, h2, h3⟩ := memB_iff.1 h
    have hp : PP = 2147483579 := rfl
    exact memZ_iff.2 ⟨by omega, by omega, by rw [Int.toNat_natCast]; exact h3⟩
  generalize pw 4 (secN k) PP = A at *
  have mb := toZ _ (mem_pw ha (exN i))
  have hb : pw (pw A (exN i) PP) QQ PP = 1 := (memB_iff.1 (mem_pw ha _)).2.2
  have mc := toZ _ (mem_pw hb (exN j))
  have q4 := fun W => exp_yes A (exN i) W ma (wth_lt hx)
  have q5 := fun W => exp_yes (pw A (exN i) PP) (exN j) W mb (wth_lt hy)
  have hcd : pw (pw A (exN i) PP) (exN j) PP = pw A (exN i * exN j % QQ) PP := by rw [pw_pw, pw_mod_exp PP_gt ha]
  have q6 := fun W => exp_yes A (exN i * exN j % QQ) W ma (wth_lt (Nat.mod_lt _ (by decide)))
  rw [← hcd] at q6
  have hmul : ((exN i : Nat) : Int) * ((exN j : Nat) : Int) % 1073741789 = ((exN i * exN j % QQ : Nat) : Int) := by rw [Int.natCast_emod, Int.natCast_mul]; rfl
  have q7 : ∀ W, Calls Tryd.prog 18 #[.int .i64 A, .int .i64 0] W fun e w' => e = .returned (.tuple #[.int .i64 (pw A 0 PP : Nat), .int .i64 0]) ∧ Below W.heap.size W w' := fun W => exp_yes A 0 W ma (by decide)
  rw [pw_zero PP_gt] at q7
  have q8 := fun W => member_any A W
  have q9 := fun W => member_any (pw A (exN i) PP : Nat) W
  have q10 := fun W => member_any (pw (pw A (exN i) PP) (exN j) PP : Nat) W
  rw [ma] at q8
  rw [mb] at q9
  rw [mc] at q10
  generalize exN i * exN j % QQ = M at *
  generalize pw (pw A (exN i) PP) (exN j) PP = C at *
  generalize pw A (exN i) PP = B at *
  generalize ((secN k : Nat) : Int) = K at *
  generalize exN i = X at *
  generalize exN j = Y at *
  have hm0 : 0 ≤ (X : Int) * (Y : Int) := Int.mul_nonneg (by omega) (by omega)
  have hm1 : (X : Int) * (Y : Int) ≤ 1152921504606846976 := by
    have h : X * Y ≤ 1073741789 * 1073741789 := Nat.mul_le_mul (by omega) (by omega)
    have : ((X * Y : Nat) : Int) ≤ 1152921504606846976 := by omega
    rwa [Int.natCast_mul] at this
  have hcc : ((C : Int) == (C : Int)) = true := by simp
  have bb0 := Below.refl w.heap.size w
  clear hcd toZ
  have H_q1 := Lib.hid q1; clear q1; have H_q2 := Lib.hid q2; clear q2; have H_q3 := Lib.hid q3; clear q3; have H_q4 := Lib.hid q4; clear q4; have H_q5 := Lib.hid q5; clear q5; have H_q6 := Lib.hid q6; clear q6; have H_q7 := Lib.hid q7; clear q7; have H_q8 := Lib.hid q8; clear q8; have H_q9 := Lib.hid q9; clear q9; have H_q10 := Lib.hid q10; clear q10; have H_bb0 := Lib.hid bb0; clear bb0; have H_hk := Lib.hid hk; clear hk; have H_hi := Lib.hid hi; clear hi; have H_hj := Lib.hid hj; clear hj; have H_ht := Lib.hid ht; clear ht; have H_ha := Lib.hid ha; clear ha; have H_hb := Lib.hid hb; clear hb; have H_ma := Lib.hid ma; clear ma; have H_mb := Lib.hid mb; clear mb; have H_mc := Lib.hid mc; clear mc; have H_hx := Lib.hid hx; clear hx; have H_hy := Lib.hid hy; clear hy; have H_hq := Lib.hid hq; clear hq
  go_enter Tryd.func4, Tryd.ntmps4
  go_wp2_with fail
  refine H_q1.out.mono ?_
  rintro e w1 ⟨rfl, b1⟩
  have s1 := b1.size
  (try simp only [World.size_alloc, World.heap_drewN, World.size_setCell, heap_drew] at s1)
  have bb1 := H_bb0.out.trans (b1.mono (by first | omega | (simp; omega)))
  have H_b1 := Lib.hid b1; clear b1; have H_bb1 := Lib.hid bb1; clear bb1
  have p2 := H_q2.out w1
  have p3 := H_q3.out w1
  have H_p2 := Lib.hid p2; clear p2; have H_p3 := Lib.hid p3; clear p3
  go_wp2_with fail
  refine H_p2.out.mono ?_
  rintro e w_ ⟨rfl, rfl⟩
  go_wp2_with fail
  refine H_p3.out.mono ?_
  rintro e w2 ⟨rfl, b2⟩
  have s2 := b2.size
  (try simp only [World.size_alloc, World.heap_drewN, World.size_setCell, heap_drew] at s2)
  have bb2 := H_bb1.out.trans (b2.mono (by first | omega | (simp; omega)))
  have H_b2 := Lib.hid b2; clear b2; have H_bb2 := Lib.hid bb2; clear bb2
  have p4 := H_q4.out w2
  have H_p4 := Lib.hid p4; clear p4
  go_wp2_with fail
  refine H_p4.out.mono ?_
  rintro e w3 ⟨rfl, b3⟩
  have s3 := b3.size
  (try simp only [World.size_alloc, World.heap_drewN, World.size_setCell, heap_drew] at s3)
  have bb3 := H_bb2.out.trans (b3.mono (by first | omega | (simp; omega)))
  have H_b3 := Lib.hid b3; clear b3; have H_bb3 := Lib.hid bb3; clear bb3
  have p5 := H_q5.out w3
  have H_p5 := Lib.hid p5; clear p5
  go_wp2_with fail
  refine H_p5.out.mono ?_
  rintro e w4 ⟨rfl, b4⟩
  have s4 := b4.size
  (try simp only [World.size_alloc, World.heap_drewN, World.size_setCell, heap_drew] at s4)
  have bb4 := H_bb3.out.trans (b4.mono (by first | omega | (simp; omega)))
  have H_b4 := Lib.hid b4; clear b4; have H_bb4 := Lib.hid bb4; clear bb4
  have p6 := H_q6.out w4
  have H_p6 := Lib.hid p6; clear p6
  go_wp2_with fail
  refine H_p6.out.mono ?_
  rintro e w5 ⟨rfl, b5⟩
  have s5 := b5.size
  (try simp only [World.size_alloc, World.heap_drewN, World.size_setCell, heap_drew] at s5)
  have bb5 := H_bb4.out.trans (b5.mono (by first | omega | (simp; omega)))
  have H_b5 := Lib.hid b5; clear b5; have H_bb5 := Lib.hid bb5; clear bb5
  have p7 := H_q7.out w5
  have H_p7 := Lib.hid p7; clear p7
  go_wp2_with fail
  refine H_p7.out.mono ?_
  rintro e w6 ⟨rfl, b6⟩
  have s6 := b6.size
  (try simp only [World.size_alloc, World.heap_drewN, World.size_setCell, heap_drew] at s6)
  have bb6 := H_bb5.out.trans (b6.mono (by first | omega | (simp; omega)))
  have H_b6 := Lib.hid b6; clear b6; have H_bb6 := Lib.hid bb6; clear bb6
  have p8 := H_q8.out w6
  have H_p8 := Lib.hid p8; clear p8
  go_wp2_with fail
  refine H_p8.out.mono ?_
  rintro e w7 ⟨rfl, b7⟩
  have s7 := b7.size
  (try simp only [World.size_alloc, World.heap_drewN, World.size_setCell, heap_drew] at s7)
  have bb7 := H_bb6.out.trans (b7.mono (by first | omega | (simp; omega)))
  have H_b7 := Lib.hid b7; clear b7; have H_bb7 := Lib.hid bb7; clear bb7
  have p9 := H_q9.out w7
  have H_p9 := Lib.hid p9; clear p9
  go_wp2_with fail
  refine H_p9.out.mono ?_
  rintro e w8 ⟨rfl, b8⟩
  have s8 := b8.size
  (try simp only [World.size_alloc, World.heap_drewN, World.size_setCell, heap_drew] at s8)
  have bb8 := H_bb7.out.trans (b8.mono (by first | omega | (simp; omega)))
  have H_b8 := Lib.hid b8; clear b8; have H_bb8 := Lib.hid bb8; clear bb8
  have p10 := H_q10.out w8
  have H_p10 := Lib.hid p10; clear p10
  go_wp2_with fail
  refine H_p10.out.mono ?_
  rintro e w9 ⟨rfl, b9⟩
  have s9 := b9.size
  (try simp only [World.size_alloc, World.heap_drewN, World.size_setCell, heap_drew] at s9)
  have bb9 := H_bb8.out.trans (b9.mono (by first | omega | (simp; omega)))
  have H_b9 := Lib.hid b9; clear b9; have H_bb9 := Lib.hid bb9; clear bb9
  go_wp2_with fail
  go_ret
  exact ⟨rfl, H_bb9.out⟩
end Go.Proofs.YtncfilbpgomncaaDoor

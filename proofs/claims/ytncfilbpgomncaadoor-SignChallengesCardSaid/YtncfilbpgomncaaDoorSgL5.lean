/- The walk of SignChallenges. -/
import Derived.Test.YtncfilbpgomncaaDoorSgW
namespace Go.Proofs.YtncfilbpgomncaaDoor
set_option linter.unusedSimpArgs false
set_option linter.unusedVariables false
set_option maxRecDepth 100000
open Go.RowKit

/-- a number, changed by another one, modulo Q -/
theorem changed_in (e : Nat) (a : Int) (he : e < QQ) : ∃ (r r2 : Int) (f : Nat), a.tmod 1073741789 = r ∧ ((e : Int) + r).tmod 1073741789 = r2 ∧ (r2 + 1073741789) % 1073741789 = (f : Int) ∧ f < QQ ∧ -1073741789 ≤ r ∧ r ≤ 1073741789 ∧ -1073741789 < r2 ∧ r2 ≤ 1073741789 := by
  have hq : QQ = 1073741789 := rfl
  have h1 := Int.tmod_lt_of_pos a (b := 1073741789) (by omega)
  have h2 := Int.lt_tmod_of_pos a (b := 1073741789) (by omega)
  have h3 := Int.tmod_lt_of_pos ((e : Int) + a.tmod 1073741789) (b := 1073741789) (by omega)
  have h4 := Int.lt_tmod_of_pos ((e : Int) + a.tmod 1073741789) (b := 1073741789) (by omega)
  exact ⟨_, _, ((((e : Int) + a.tmod 1073741789).tmod 1073741789 + 1073741789) % 1073741789).toNat, rfl, rfl, by omega, by omega, by omega, by omega, by omega, by omega⟩
theorem chal_fit {p : Nat} (hp : memZ p = true) : -9223372036854775808 ≤ (p : Int) ∧ (p : Int) ≤ 9223372036854775807 := by have := memZ_iff.1 hp; omega
/-- what is asked for, as the law computes it: Back's list -/
theorem ask_any (p e s : Nat) (l : List Int) (n : Nat) (hln : l.length = n) (hp : memZ p = true) (hn : n ≤ 1000) (hf : Fit l) (W : World) (X : Option Addr) (x : Nat) (h : IntsAt W X .i64 ([((backN p e s : Nat) : Int), (p : Int)] ++ l)) :
    Calls Tryd.prog 27 #[.slice X (2 + n) x] W fun r w' => r = .returned (.int .i64 (chN ((backN p e s : Nat) :: (p : Int) :: l) : Nat)) ∧ Below W.heap.size W w' := by
  refine rchal_any X x (2 + n) _ (by simp [hln]; omega) W h (by omega) (fit_two ?_ (chal_fit hp) hf)
  have := backN_lt p e s
  have hpp : PP = 2147483579 := rfl
  omega

/-- a cell of a block that is there -/
def CellIs (w : World) (b o : Nat) (v : Value) : Prop := b < w.heap.size ∧ w.cell? ⟨b, o, none⟩ = some v
theorem CellIs.below {w w' : World} {b o : Nat} {v : Value} (h : CellIs w b o v) (hb : Below w.heap.size w w') : CellIs w' b o v := ⟨Nat.lt_of_lt_of_le h.1 hb.size, keepc hb h.1 h.2⟩

set_option maxHeartbeats 8000000 in
theorem signChallenges_walk (k o h_ : Int) (A : Option Addr) (c : Nat) (l : List Int) (B : Option Addr) (d : Nat) (m : List Int) (ae as_ : Int) (w : World) (hk : (Lit.int .u64 k).wf = true) (ho : (Lit.int .u64 o).wf = true) (hh : (Lit.int .u64 h_).wf = true)
    (hl : IntsAt w A .i64 l) (hlc : l.length ≤ c) (hcm : c ≤ maxLen) (hlw : ∀ n ∈ l, (Lit.int .i64 n).wf = true)
    (hm : IntsAt w B .i64 m) (hmc : m.length ≤ d) (hcm2 : d ≤ maxLen) (hmw : ∀ n ∈ m, (Lit.int .i64 n).wf = true) (hae : (Lit.int .i64 ae).wf = true) (has : (Lit.int .i64 as_).wf = true) (ht : Tab w) :
    Calls Tryd.prog 6 #[.int .u64 k, .int .u64 o, .int .u64 h_, .slice A l.length c, .slice B m.length d, .agg #[.int .i64 ae, .int .i64 as_]] w fun r w' => r = .returned (.bool true) ∧ Below w.heap.size w w' := by
  obtain ⟨i0, hi, hz0, hz1, hz2⟩ := info_parts infoI64
  unfold maxLen at hcm hcm2
  have hq : QQ = 1073741789 := rfl
  have bw : Below w.heap.size w (w.alloc (.cells #[.int .i64 ae, .int .i64 as_] 23)) := (Below.refl _ _).alloc (Nat.le_refl _) _
  have k0 : (w.alloc (.cells #[.int .i64 ae, .int .i64 as_] 23)).cell? ⟨w.heap.size, 0, none⟩ = some (.int .i64 ae) := by rw [cell_of_row _ _ _ _ _ _ (heap_alloc_new w _)]; rfl
  have k1 : (w.alloc (.cells #[.int .i64 ae, .int .i64 as_] 23)).cell? ⟨w.heap.size, 1, none⟩ = some (.int .i64 as_) := by rw [cell_of_row _ _ _ _ _ _ (heap_alloc_new w _)]; rfl
  have sz : w.heap.size < (w.alloc (.cells #[.int .i64 ae, .int .i64 as_] 23)).heap.size := by simp
  have l0 := hl.below bw
  have m0 := hm.below bw
  have t0 := ht.below bw
  have f1 := fit_take (fit_of hlw) 20
  have f2 := fit_take (fit_of hmw) 20
  have n1 : (l.take 20).length ≤ 20 := by simp; omega
  have n2 : (m.take 20).length ≤ 20 := by simp; omega
  have q1 := head5_any _ t0
  have q2 := fun W (hW : IntsAt W A .i64 l) => lfew_any A c l W hW hlc (by omega)
  have q3 := fun W (hW : IntsAt W B .i64 m) => lfew_any B d m W hW hmc (by omega)
  have q4 := fun W => secret_any k W (wf_u64 hk)
  have q5 := fun W => secret_any o W (wf_u64 ho)
  have q6 := fun W => secret_any h_ W (wf_u64 hh)
  have q7 := fun W => public_yes (secN k) W (secN_wth k)
  have q8 := fun W => public_yes (secN h_) W (secN_wth h_)
  generalize hLL : l.take 20 = LL at *
  generalize hMM : m.take 20 = MM at *
  have q9 := fun W (h : IntsAt W A .i64 LL) h2 => sign_yes (secN k) (secN o) A c LL.length LL rfl W (secN_wth k) (secN_wth o) h (by omega) f1 h2
  have hws := wth_sig (s := secN k) (o := secN o) (l := LL)
  have hE := sigE_lt (secN k) (secN o) LL
  have hS := sigS_lt (secN k) (secN o) LL
  have mp1 : memZ ((pw 4 (secN k) PP : Nat) : Int) = true := memZ_pw
  have mp2 : memZ ((pw 4 (secN h_) PP : Nat) : Int) = true := memZ_pw
  generalize sigE (secN k) (secN o) LL = E at *
  generalize sigS (secN k) (secN o) LL = S at *
  generalize pw 4 (secN k) PP = P1 at *
  generalize pw 4 (secN h_) PP = P2 at *
  obtain ⟨r1, r2, F, x1, x2, x3, hF, y1, y2, y3, y4⟩ := changed_in E ae hE
  obtain ⟨r3, r4, G, x4, x5, x6, hG, y5, y6, y7, y8⟩ := changed_in S as_ hS
  have hwF : wthB F 0 = true := wthB_iff.2 (by omega)
  have hwG : wthB G 0 = true := wthB_iff.2 (by omega)
  have v1 := fun W (h : IntsAt W A .i64 LL) h2 => verify_yes P1 F G A c LL.length LL rfl W mp1 hwF hwG h (by omega) f1 h2
  have v2 := fun W (h : IntsAt W B .i64 MM) h2 => verify_yes P1 E S B d MM.length MM rfl W mp1 hws.1 hws.2 h (by omega) f2 h2
  have v3 := fun W (h : IntsAt W A .i64 LL) h2 => verify_yes P2 E S A c LL.length LL rfl W mp2 hws.1 hws.2 h (by omega) f1 h2
  have pb : ∀ p : Nat, memZ p = true → p < PP := fun p h => by have := memZ_iff.1 h; have hpp : PP = 2147483579 := rfl; omega
  have u1 := fun W => rback_any P1 F G W (pb _ mp1) hF hG
  have u2 := fun W => rback_any P1 E S W (pb _ mp1) hE hS
  have u3 := fun W => rback_any P2 E S W (pb _ mp2) hE hS
  have c1 := fun W X x h => ask_any P1 F G LL LL.length rfl mp1 (by omega) f1 W X x h
  have c2 := fun W X x h => ask_any P1 E S MM MM.length rfl mp1 (by omega) f2 W X x h
  have c3 := fun W X x h => ask_any P2 E S LL LL.length rfl mp2 (by omega) f1 W X x h
  have e1 : rightB P1 F G LL = (((chN ((backN P1 F G : Nat) :: (P1 : Int) :: LL) : Nat) : Int) == (F : Int)) := by rw [nat_beq, rightB, Bool.eq_iff_iff, beq_iff_eq, beq_iff_eq]; exact eq_comm
  have e2 : rightB P1 E S MM = (((chN ((backN P1 E S : Nat) :: (P1 : Int) :: MM) : Nat) : Int) == (E : Int)) := by rw [nat_beq, rightB, Bool.eq_iff_iff, beq_iff_eq, beq_iff_eq]; exact eq_comm
  have e3 : rightB P2 E S LL = (((chN ((backN P2 E S : Nat) :: (P2 : Int) :: LL) : Nat) : Int) == (E : Int)) := by rw [nat_beq, rightB, Bool.eq_iff_iff, beq_iff_eq, beq_iff_eq]; exact eq_comm
  rw [e1] at v1
  rw [e2] at v2
  rw [e3] at v3
  generalize ((chN ((backN P1 F G : Nat) :: (P1 : Int) :: LL) : Nat) : Int) = C1 at *
  generalize ((chN ((backN P1 E S : Nat) :: (P1 : Int) :: MM) : Nat) : Int) = C2 at *
  generalize ((chN ((backN P2 E S : Nat) :: (P2 : Int) :: LL) : Nat) : Int) = C3 at *
  generalize backN P1 F G = B1 at *
  generalize backN P1 E S = B2 at *
  generalize backN P2 E S = B3 at *
  generalize hZ1 : (C1 == (F : Int)) = Z1 at *
  generalize hZ2 : (C2 == (E : Int)) = Z2 at *
  generalize hZ3 : (C3 == (E : Int)) = Z3 at *
  have z1 : (Z1 == Z1) = true := by simp
  have z2 : (Z2 == Z2) = true := by simp
  have z3 : (Z3 == Z3) = true := by simp
  generalize ((secN k : Nat) : Int) = K at *
  generalize ((secN o : Nat) : Int) = O at *
  generalize ((secN h_ : Nat) : Int) = H at *
  have i1 : (E : Int) ≤ 1073741789 := by omega
  have i2 : (S : Int) ≤ 1073741789 := by omega
  obtain ⟨w0, hw0⟩ : ∃ w0, w.alloc (.cells #[.int .i64 ae, .int .i64 as_] 23) = w0 := ⟨_, rfl⟩
  have bb0 := Below.refl w0.heap.size w0
  have a0 : IntsAt (w.alloc (.cells #[.int .i64 ae, .int .i64 as_] 23)) A .i64 LL := by rw [← hLL]; exact l0.take 20
  have g0 : IntsAt (w.alloc (.cells #[.int .i64 ae, .int .i64 as_] 23)) B .i64 MM := by rw [← hMM]; exact m0.take 20
  generalize hNL : LL.length = NL at *
  generalize hNM : MM.length = NM at *
  rw [hw0] at bw k0 k1 sz l0 m0 t0 q1 a0 g0
  clear pb
  have H_bw := Lib.hid bw; clear bw; have H_k0 := Lib.hid k0; clear k0; have H_k1 := Lib.hid k1; clear k1; have H_l0 := Lib.hid l0; clear l0; have H_m0 := Lib.hid m0; clear m0; have H_t0 := Lib.hid t0; clear t0; have H_f1 := Lib.hid f1; clear f1; have H_f2 := Lib.hid f2; clear f2; have H_q1 := Lib.hid q1; clear q1; have H_q2 := Lib.hid q2; clear q2; have H_q3 := Lib.hid q3; clear q3; have H_q4 := Lib.hid q4; clear q4; have H_q5 := Lib.hid q5; clear q5; have H_q6 := Lib.hid q6; clear q6; have H_q7 := Lib.hid q7; clear q7; have H_q8 := Lib.hid q8; clear q8; have H_q9 := Lib.hid q9; clear q9; have H_hws := Lib.hid hws; clear hws; have H_hE := Lib.hid hE; clear hE; have H_hS := Lib.hid hS; clear hS; have H_mp1 := Lib.hid mp1; clear mp1; have H_mp2 := Lib.hid mp2; clear mp2; have H_hF := Lib.hid hF; clear hF; have H_hG := Lib.hid hG; clear hG; have H_hwF := Lib.hid hwF; clear hwF; have H_hwG := Lib.hid hwG; clear hwG; have H_v1 := Lib.hid v1; clear v1; have H_v2 := Lib.hid v2; clear v2; have H_v3 := Lib.hid v3; clear v3; have H_u1 := Lib.hid u1; clear u1; have H_u2 := Lib.hid u2; clear u2; have H_u3 := Lib.hid u3; clear u3; have H_c1 := Lib.hid c1; clear c1; have H_c2 := Lib.hid c2; clear c2; have H_c3 := Lib.hid c3; clear c3; have H_e1 := Lib.hid e1; clear e1; have H_e2 := Lib.hid e2; clear e2; have H_e3 := Lib.hid e3; clear e3; have H_hw0 := Lib.hid hw0; clear hw0; have H_bb0 := Lib.hid bb0; clear bb0; have H_a0 := Lib.hid a0; clear a0; have H_g0 := Lib.hid g0; clear g0; have H_hl := Lib.hid hl; clear hl; have H_hlw := Lib.hid hlw; clear hlw; have H_hm := Lib.hid hm; clear hm; have H_hmw := Lib.hid hmw; clear hmw; have H_ht := Lib.hid ht; clear ht; have H_hk := Lib.hid hk; clear hk; have H_ho := Lib.hid ho; clear ho; have H_hh := Lib.hid hh; clear hh; have H_hae := Lib.hid hae; clear hae; have H_has := Lib.hid has; clear has; have H_hq := Lib.hid hq; clear hq; have H_hLL := Lib.hid hLL; clear hLL; have H_hMM := Lib.hid hMM; clear hMM; have H_hNL := Lib.hid hNL; clear hNL; have H_hNM := Lib.hid hNM; clear hNM
  go_enter Tryd.func6, Tryd.ntmps6
  go_wp2_with fail
  rw [H_hw0.out]
  refine H_q1.out.mono ?_
  rintro r w1 ⟨rfl, b1'⟩
  have s1 := b1'.size
  have bb1 := H_bb0.out.trans b1'
  have a1 := H_a0.out.below b1'
  have g1 := H_g0.out.below b1'
  have t1 := H_t0.out.below b1'
  have p2 := H_q2.out w1 (H_l0.out.below b1')
  have p3 := H_q3.out w1 (H_m0.out.below b1')
  have p4 := H_q4.out w1
  have p7 := H_q7.out w1
  have H_b1' := Lib.hid b1'; clear b1'; have H_bb1 := Lib.hid bb1; clear bb1; have H_a1 := Lib.hid a1; clear a1; have H_g1 := Lib.hid g1; clear g1; have H_t1 := Lib.hid t1; clear t1; have H_p2 := Lib.hid p2; clear p2; have H_p3 := Lib.hid p3; clear p3; have H_p4 := Lib.hid p4; clear p4; have H_p7 := Lib.hid p7; clear p7
  go_wp2_with fail
  refine H_p2.out.mono ?_
  rintro e w_ ⟨rfl, rfl⟩
  go_wp2_with fail
  refine H_p3.out.mono ?_
  rintro e w_ ⟨rfl, rfl⟩
  go_wp2_with fail
  refine H_p4.out.mono ?_
  rintro e w_ ⟨rfl, rfl⟩
  go_wp2_with fail
  refine H_p7.out.mono ?_
  rintro e w2 ⟨rfl, b2⟩
  have s2 := b2.size
  (try simp only [World.size_alloc, World.heap_drewN, World.size_setCell, heap_drew] at s2)
  have bb2 := H_bb1.out.trans (b2.mono (by first | omega | (simp; omega)))
  have a2 := H_a1.out.below b2
  have g2 := H_g1.out.below b2
  have t2 := H_t1.out.below b2
  have H_b2 := Lib.hid b2; clear b2; have H_bb2 := Lib.hid bb2; clear bb2; have H_a2 := Lib.hid a2; clear a2; have H_g2 := Lib.hid g2; clear g2; have H_t2 := Lib.hid t2; clear t2
  have p6 := H_q6.out w2
  have p8 := H_q8.out w2
  have H_p6 := Lib.hid p6; clear p6; have H_p8 := Lib.hid p8; clear p8
  go_wp2_with fail
  refine H_p6.out.mono ?_
  rintro e w_ ⟨rfl, rfl⟩
  go_wp2_with fail
  refine H_p8.out.mono ?_
  rintro e w3 ⟨rfl, b3⟩
  have s3 := b3.size
  (try simp only [World.size_alloc, World.heap_drewN, World.size_setCell, heap_drew] at s3)
  have bb3 := H_bb2.out.trans (b3.mono (by first | omega | (simp; omega)))
  have a3 := H_a2.out.below b3
  have g3 := H_g2.out.below b3
  have t3 := H_t2.out.below b3
  have H_b3 := Lib.hid b3; clear b3; have H_bb3 := Lib.hid bb3; clear bb3; have H_a3 := Lib.hid a3; clear a3; have H_g3 := Lib.hid g3; clear g3; have H_t3 := Lib.hid t3; clear t3
  have p4 := H_q4.out w3
  have p5 := H_q5.out w3
  have p9 := H_q9.out w3 H_a3.out H_t3.out
  have H_p4 := Lib.hid p4; clear p4; have H_p5 := Lib.hid p5; clear p5; have H_p9 := Lib.hid p9; clear p9
  go_wp2_with fail
  refine H_p4.out.mono ?_
  rintro e w_ ⟨rfl, rfl⟩
  go_wp2_with fail
  refine H_p5.out.mono ?_
  rintro e w_ ⟨rfl, rfl⟩
  go_wp2_with fail
  refine H_p9.out.mono ?_
  rintro e w4 ⟨rfl, b4⟩
  have s4 := b4.size
  (try simp only [World.size_alloc, World.heap_drewN, World.size_setCell, heap_drew] at s4)
  have bb4 := H_bb3.out.trans (b4.mono (by first | omega | (simp; omega)))
  have a4 := H_a3.out.below b4
  have g4 := H_g3.out.below b4
  have t4 := H_t3.out.below b4
  have H_b4 := Lib.hid b4; clear b4; have H_bb4 := Lib.hid bb4; clear bb4; have H_a4 := Lib.hid a4; clear a4; have H_g4 := Lib.hid g4; clear g4; have H_t4 := Lib.hid t4; clear t4
  have d0 := keepc H_bb4.out (b := w.heap.size) (o := 0) sz H_k0.out
  have d1 := keepc H_bb4.out (b := w.heap.size) (o := 1) sz H_k1.out
  have s4z := H_bb4.out.size
  have hne0 : w.heap.size < w4.heap.size := by omega
  go_wp2_with fail
  obtain ⟨w5, hw5⟩ : ∃ w5, (w4.alloc (.cells #[.int .i64 E, .int .i64 S] 23)).alloc (.cells #[.int .i64 F, .int .i64 G] 23) = w5 := ⟨_, rfl⟩
  have b5 : Below w4.heap.size w4 w5 := by rw [← hw5]; exact ((Below.refl _ _).alloc (Nat.le_refl _) _).alloc (by simp) _
  have c5 : CellIs w5 w4.heap.size 0 (.int .i64 E) := ⟨by rw [← hw5]; simp; omega, by subst hw5; go_simp⟩
  have d5 : CellIs w5 w4.heap.size 1 (.int .i64 S) := ⟨by rw [← hw5]; simp; omega, by subst hw5; go_simp⟩
  have e5 : CellIs w5 (w4.heap.size + 1) 0 (.int .i64 F) := ⟨by rw [← hw5]; simp, by subst hw5; go_simp⟩
  have f5 : CellIs w5 (w4.heap.size + 1) 1 (.int .i64 G) := ⟨by rw [← hw5]; simp, by subst hw5; go_simp⟩
  have s5 := b5.size
  have bb5 := H_bb4.out.trans (b5.mono (by omega))
  have a5 := H_a4.out.below b5
  have g5 := H_g4.out.below b5
  have t5 := H_t4.out.below b5
  have p5 := H_v1.out w5 a5 t5
  rw [hw5]
  clear d0 d1
  have H_b5 := Lib.hid b5; clear b5; have H_bb5 := Lib.hid bb5; clear bb5; have H_c5 := Lib.hid c5; clear c5; have H_d5 := Lib.hid d5; clear d5; have H_e5 := Lib.hid e5; clear e5; have H_f5 := Lib.hid f5; clear f5; have H_a5 := Lib.hid a5; clear a5; have H_g5 := Lib.hid g5; clear g5; have H_t5 := Lib.hid t5; clear t5; have H_hw5 := Lib.hid hw5; clear hw5; have H_p5 := Lib.hid p5; clear p5
  go_wp2_with fail
  refine H_p5.out.mono ?_
  rintro e w6 ⟨rfl, b6⟩
  have s6 := b6.size
  (try simp only [World.size_alloc, World.heap_drewN, World.size_setCell, heap_drew] at s6)
  have bb6 := H_bb5.out.trans (b6.mono (by first | omega | (simp; omega)))
  have a6 := H_a5.out.below b6
  have g6 := H_g5.out.below b6
  have t6 := H_t5.out.below b6
  have c6 := H_c5.out.below b6
  have d6 := H_d5.out.below b6
  have e6 := H_e5.out.below b6
  have f6 := H_f5.out.below b6
  have H_b6 := Lib.hid b6; clear b6; have H_bb6 := Lib.hid bb6; clear bb6; have H_a6 := Lib.hid a6; clear a6; have H_g6 := Lib.hid g6; clear g6; have H_t6 := Lib.hid t6; clear t6; have H_c6 := Lib.hid c6; clear c6; have H_d6 := Lib.hid d6; clear d6; have H_e6 := Lib.hid e6; clear e6; have H_f6 := Lib.hid f6; clear f6
  have p6 := H_v2.out w6 H_g6.out H_t6.out
  have c0 := H_c6.out.2; have d0 := H_d6.out.2; have e0 := H_e6.out.2; have f0 := H_f6.out.2
  have H_p6 := Lib.hid p6; clear p6
  go_wp2_with fail
  refine H_p6.out.mono ?_
  rintro e w7 ⟨rfl, b7⟩
  have s7 := b7.size
  (try simp only [World.size_alloc, World.heap_drewN, World.size_setCell, heap_drew] at s7)
  have bb7 := H_bb6.out.trans (b7.mono (by first | omega | (simp; omega)))
  have a7 := H_a6.out.below b7
  have g7 := H_g6.out.below b7
  have t7 := H_t6.out.below b7
  have c7 := H_c6.out.below b7
  have d7 := H_d6.out.below b7
  have e7 := H_e6.out.below b7
  have f7 := H_f6.out.below b7
  have H_b7 := Lib.hid b7; clear b7; have H_bb7 := Lib.hid bb7; clear bb7; have H_a7 := Lib.hid a7; clear a7; have H_g7 := Lib.hid g7; clear g7; have H_t7 := Lib.hid t7; clear t7; have H_c7 := Lib.hid c7; clear c7; have H_d7 := Lib.hid d7; clear d7; have H_e7 := Lib.hid e7; clear e7; have H_f7 := Lib.hid f7; clear f7
  clear c0 d0 e0 f0
  have p7 := H_v3.out w7 H_a7.out H_t7.out
  have c0 := H_c7.out.2; have d0 := H_d7.out.2; have e0 := H_e7.out.2; have f0 := H_f7.out.2
  have H_p7 := Lib.hid p7; clear p7
  go_wp2_with fail
  refine H_p7.out.mono ?_
  rintro e w8 ⟨rfl, b8⟩
  have s8 := b8.size
  (try simp only [World.size_alloc, World.heap_drewN, World.size_setCell, heap_drew] at s8)
  have bb8 := H_bb7.out.trans (b8.mono (by first | omega | (simp; omega)))
  have a8 := H_a7.out.below b8
  have g8 := H_g7.out.below b8
  have t8 := H_t7.out.below b8
  have c8 := H_c7.out.below b8
  have d8 := H_d7.out.below b8
  have e8 := H_e7.out.below b8
  have f8 := H_f7.out.below b8
  have H_b8 := Lib.hid b8; clear b8; have H_bb8 := Lib.hid bb8; clear bb8; have H_a8 := Lib.hid a8; clear a8; have H_g8 := Lib.hid g8; clear g8; have H_t8 := Lib.hid t8; clear t8; have H_c8 := Lib.hid c8; clear c8; have H_d8 := Lib.hid d8; clear d8; have H_e8 := Lib.hid e8; clear e8; have H_f8 := Lib.hid f8; clear f8
  clear c0 d0 e0 f0
  have c0 := H_c8.out.2; have d0 := H_d8.out.2; have e0 := H_e8.out.2; have f0 := H_f8.out.2
  have c0l := H_c8.out.1; have e0l := H_e8.out.1
  go_wp2_with fail
  go_region_held3 (fun W => (∀ b o, b < w8.heap.size → W.cell? ⟨b, o, none⟩ = w8.cell? ⟨b, o, none⟩) ∧ Below w8.heap.size w8 W) (first | (refine ext_mk ?_; (repeat (first | with_reducible exact Below.refl _ _ | with_reducible exact Nat.le_refl _ | with_reducible assumption | with_reducible refine Below.drew ?_ | with_reducible refine below_drewN ?_ _ | with_reducible refine Below.alloc ?_ ?_ _ | with_reducible refine Below.setCell ?_ ?_ _ | with_reducible exact And.right (by assumption) | with_reducible refine Below.trans ?_ (Below.mono (by assumption) ?_) | with_reducible exact Below.size (And.right (by assumption)) | (focus omega) | (focus (simp; done)) | (focus (simp; omega)) | (focus (simp at *; omega)))))) (first | (go_at_call 28; ((with_reducible refine (H_u1.out _).mono ?_); rintro e v8 ⟨rfl, bv8⟩)) | (revert bv8; intro bv8; refine step_app_at _ (by rfl) (.tmp 112) (.tmp 113) _ (by rfl) v8.heap.size 3 i0 _ 8 Tryd.underlying24 hi hz0 hz1 hz2 rfl .i64 (some ⟨v8.heap.size, 0, none⟩) 2 2 [(B1 : Int), (P1 : Int)] rfl (by rfl) (by exact own_lit (w := v8) [(B1 : Int), (P1 : Int)] (Nat.le_refl _) (by simp) _ rfl) A c NL LL H_hNL.out (by rfl) (by exact H_a8.out.below (And.right (by assumption))) (by omega) (by omega) (by simp) ?_; intro X8 c8x x8 oA8 gA8 hA8; have bA8 : Below w8.heap.size w8 x8 := (Below.trans ((Below.refl _ w8).drew) (bv8.mono (Nat.le_refl _))).trans (Below.mono (OwnInts.grow (own_lit (w := v8) (k := .i64) (E := 3) [(B1 : Int), (P1 : Int)] (Nat.le_refl _) (by simp) _ rfl) ((Below.refl _ _).alloc (Nat.le_refl _) _) gA8) (bv8.size))) | (go_at_call 27; ((with_reducible refine (H_c1.out _ _ _ oA8.ints).mono ?_); rintro e w9 ⟨rfl, b9⟩)))
  have b9h : Below w8.heap.size w8 w9 := And.right (by assumption)
  clear c0 d0 e0 f0 c0l e0l
  have s9 := b9h.size
  have bb9 := H_bb8.out.trans (b9h.mono (by omega))
  have a9 := H_a8.out.below b9h
  have g9 := H_g8.out.below b9h
  have c9 := H_c8.out.below b9h
  have d9 := H_d8.out.below b9h
  have e9 := H_e8.out.below b9h
  have f9 := H_f8.out.below b9h
  have H_b9h := Lib.hid b9h; clear b9h; have H_b9 := Lib.hid b9; clear b9; have H_bb9 := Lib.hid bb9; clear bb9; have H_a9 := Lib.hid a9; clear a9; have H_g9 := Lib.hid g9; clear g9; have H_c9 := Lib.hid c9; clear c9; have H_d9 := Lib.hid d9; clear d9; have H_e9 := Lib.hid e9; clear e9; have H_f9 := Lib.hid f9; clear f9; have H_oA8 := Lib.hid oA8; clear oA8; have H_gA8 := Lib.hid gA8; clear gA8; have H_hA8 := Lib.hid hA8; clear hA8; have H_bA8 := Lib.hid bA8; clear bA8; have H_bv8 := Lib.hid bv8; clear bv8
  have c0 := H_c9.out.2; have d0 := H_d9.out.2; have e0 := H_e9.out.2; have f0 := H_f9.out.2
  have c0l := H_c9.out.1; have e0l := H_e9.out.1
  go_wp2_with fail
  go_region_held3 (fun W => (∀ b o, b < w9.heap.size → W.cell? ⟨b, o, none⟩ = w9.cell? ⟨b, o, none⟩) ∧ Below w9.heap.size w9 W) (first | (refine ext_mk ?_; (repeat (first | with_reducible exact Below.refl _ _ | with_reducible exact Nat.le_refl _ | with_reducible assumption | with_reducible refine Below.drew ?_ | with_reducible refine below_drewN ?_ _ | with_reducible refine Below.alloc ?_ ?_ _ | with_reducible refine Below.setCell ?_ ?_ _ | with_reducible exact And.right (by assumption) | with_reducible refine Below.trans ?_ (Below.mono (by assumption) ?_) | with_reducible exact Below.size (And.right (by assumption)) | (focus omega) | (focus (simp; done)) | (focus (simp; omega)) | (focus (simp at *; omega)))))) (first | (go_at_call 28; ((with_reducible refine (H_u2.out _).mono ?_); rintro e v9 ⟨rfl, bv9⟩)) | (revert bv9; intro bv9; refine step_app_at _ (by rfl) (.tmp 123) (.tmp 124) _ (by rfl) v9.heap.size 3 i0 _ 8 Tryd.underlying24 hi hz0 hz1 hz2 rfl .i64 (some ⟨v9.heap.size, 0, none⟩) 2 2 [(B2 : Int), (P1 : Int)] rfl (by rfl) (by exact own_lit (w := v9) [(B2 : Int), (P1 : Int)] (Nat.le_refl _) (by simp) _ rfl) B d NM MM H_hNM.out (by rfl) (by exact H_g9.out.below (And.right (by assumption))) (by omega) (by omega) (by simp) ?_; intro X9 c9x x9 oA9 gA9 hA9; have bA9 : Below w9.heap.size w9 x9 := (Below.trans ((Below.refl _ w9).drew) (bv9.mono (Nat.le_refl _))).trans (Below.mono (OwnInts.grow (own_lit (w := v9) (k := .i64) (E := 3) [(B2 : Int), (P1 : Int)] (Nat.le_refl _) (by simp) _ rfl) ((Below.refl _ _).alloc (Nat.le_refl _) _) gA9) (bv9.size))) | (go_at_call 27; ((with_reducible refine (H_c2.out _ _ _ oA9.ints).mono ?_); rintro e w10 ⟨rfl, b10⟩)))
  have b10h : Below w9.heap.size w9 w10 := And.right (by assumption)
  clear c0 d0 e0 f0 c0l e0l
  have s10 := b10h.size
  have bb10 := H_bb9.out.trans (b10h.mono (by omega))
  have a10 := H_a9.out.below b10h
  have g10 := H_g9.out.below b10h
  have c10 := H_c9.out.below b10h
  have d10 := H_d9.out.below b10h
  have e10 := H_e9.out.below b10h
  have f10 := H_f9.out.below b10h
  have H_b10h := Lib.hid b10h; clear b10h; have H_b10 := Lib.hid b10; clear b10; have H_bb10 := Lib.hid bb10; clear bb10; have H_a10 := Lib.hid a10; clear a10; have H_g10 := Lib.hid g10; clear g10; have H_c10 := Lib.hid c10; clear c10; have H_d10 := Lib.hid d10; clear d10; have H_e10 := Lib.hid e10; clear e10; have H_f10 := Lib.hid f10; clear f10; have H_oA9 := Lib.hid oA9; clear oA9; have H_gA9 := Lib.hid gA9; clear gA9; have H_hA9 := Lib.hid hA9; clear hA9; have H_bA9 := Lib.hid bA9; clear bA9; have H_bv9 := Lib.hid bv9; clear bv9
  have c0 := H_c10.out.2; have d0 := H_d10.out.2; have e0 := H_e10.out.2; have f0 := H_f10.out.2
  have c0l := H_c10.out.1; have e0l := H_e10.out.1
  go_wp2_with fail
  go_region_held3 (fun W => (∀ b o, b < w10.heap.size → W.cell? ⟨b, o, none⟩ = w10.cell? ⟨b, o, none⟩) ∧ Below w10.heap.size w10 W) (first | (refine ext_mk ?_; (repeat (first | with_reducible exact Below.refl _ _ | with_reducible exact Nat.le_refl _ | with_reducible assumption | with_reducible refine Below.drew ?_ | with_reducible refine below_drewN ?_ _ | with_reducible refine Below.alloc ?_ ?_ _ | with_reducible refine Below.setCell ?_ ?_ _ | with_reducible exact And.right (by assumption) | with_reducible refine Below.trans ?_ (Below.mono (by assumption) ?_) | with_reducible exact Below.size (And.right (by assumption)) | (focus omega) | (focus (simp; done)) | (focus (simp; omega)) | (focus (simp at *; omega)))))) (first | (go_at_call 28; ((with_reducible refine (H_u3.out _).mono ?_); rintro e v10 ⟨rfl, bv10⟩)) | (revert bv10; intro bv10; refine step_app_at _ (by rfl) (.tmp 134) (.tmp 135) _ (by rfl) v10.heap.size 3 i0 _ 8 Tryd.underlying24 hi hz0 hz1 hz2 rfl .i64 (some ⟨v10.heap.size, 0, none⟩) 2 2 [(B3 : Int), (P2 : Int)] rfl (by rfl) (by exact own_lit (w := v10) [(B3 : Int), (P2 : Int)] (Nat.le_refl _) (by simp) _ rfl) A c NL LL H_hNL.out (by rfl) (by exact H_a10.out.below (And.right (by assumption))) (by omega) (by omega) (by simp) ?_; intro X10 c10x x10 oA10 gA10 hA10; have bA10 : Below w10.heap.size w10 x10 := (Below.trans ((Below.refl _ w10).drew) (bv10.mono (Nat.le_refl _))).trans (Below.mono (OwnInts.grow (own_lit (w := v10) (k := .i64) (E := 3) [(B3 : Int), (P2 : Int)] (Nat.le_refl _) (by simp) _ rfl) ((Below.refl _ _).alloc (Nat.le_refl _) _) gA10) (bv10.size))) | (go_at_call 27; ((with_reducible refine (H_c3.out _ _ _ oA10.ints).mono ?_); rintro e w11 ⟨rfl, b11⟩)))
  have b11h : Below w10.heap.size w10 w11 := And.right (by assumption)
  clear c0 d0 e0 f0 c0l e0l
  have s11 := b11h.size
  have bb11 := H_bb10.out.trans (b11h.mono (by omega))
  have a11 := H_a10.out.below b11h
  have g11 := H_g10.out.below b11h
  have c11 := H_c10.out.below b11h
  have d11 := H_d10.out.below b11h
  have e11 := H_e10.out.below b11h
  have f11 := H_f10.out.below b11h
  have H_b11h := Lib.hid b11h; clear b11h; have H_b11 := Lib.hid b11; clear b11; have H_bb11 := Lib.hid bb11; clear bb11; have H_a11 := Lib.hid a11; clear a11; have H_g11 := Lib.hid g11; clear g11; have H_c11 := Lib.hid c11; clear c11; have H_d11 := Lib.hid d11; clear d11; have H_e11 := Lib.hid e11; clear e11; have H_f11 := Lib.hid f11; clear f11; have H_oA10 := Lib.hid oA10; clear oA10; have H_gA10 := Lib.hid gA10; clear gA10; have H_hA10 := Lib.hid hA10; clear hA10; have H_bA10 := Lib.hid bA10; clear bA10; have H_bv10 := Lib.hid bv10; clear bv10
  have c0 := H_c11.out.2; have d0 := H_d11.out.2; have e0 := H_e11.out.2; have f0 := H_f11.out.2
  have c0l := H_c11.out.1; have e0l := H_e11.out.1
  go_wp2_with fail
  go_ret
  exact ⟨rfl, H_bw.out.trans (H_bb11.out.mono (by omega))⟩
end Go.Proofs.YtncfilbpgomncaaDoor

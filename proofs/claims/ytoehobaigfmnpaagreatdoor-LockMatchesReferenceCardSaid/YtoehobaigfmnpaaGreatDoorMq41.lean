/- The reference of cards: Check. -/
import Derived.Test.YtoehobaigfmnpaaGreatDoorMq21
import Derived.Test.YtoehobaigfmnpaaGreatDoorMq24
import Derived.Test.YtoehobaigfmnpaaGreatDoorMq36
set_option linter.unusedSimpArgs false
set_option linter.unusedVariables false
set_option maxRecDepth 100000
namespace Go.Proofs.YtoehobaigfmnpaaGreatDoor
open Go.RowKit
set_option maxHeartbeats 2000000 in
theorem rback_any (p e s : Nat) (w : World) (hp : p < PP) (he : e < QQ) (hs : s < QQ) :
  Calls Tryz.prog 91 #[.int .i64 p, .agg #[.int .i64 e, .int .i64 s]] w fun x w' => x = .returned (.int .i64 (backN p e s : Nat)) ∧ Below w.heap.size w w' := by
 have hq : QQ = 1073741789 := rfl
 have hpp : PP = 2147483579 := rfl
 have ex := exp_eq e he
 have hK : (QQ - e) % QQ < QQ := Nat.mod_lt _ (by decide)
 have hback : backN p e s = pw 4 s PP * pw p ((QQ - e) % QQ) PP % PP := rfl
 generalize hKK : (QQ - e) % QQ = K at *
 have hb1 := cast_mulmod (pw 4 s PP) (pw p K PP)
 rw [← hback] at hb1
 have hm1 := mul_lt31 (pw_lt (a := 4) (x := s) (m := PP) (by decide)) (pw_lt (a := p) (x := K) (m := PP) (by decide))
 have hm0 : 0 ≤ ((pw 4 s PP : Nat) : Int) * ((pw p K PP : Nat) : Int) := Int.mul_nonneg (by omega) (by omega)
 generalize backN p e s = B at *
 have q4a : ∀ W, Calls Tryz.prog 80 #[.int .i64 4, .int .i64 s, .int .i64 2147483579] W fun e w' => e = .returned (.int .i64 (pw 4 s PP : Nat)) ∧ W = w' := fun W => rpowP 4 s W (by decide) (by omega)
 have q4b := fun W => rpowP p K W hp (by omega)
 generalize ((pw 4 s PP : Nat) : Int) = P1 at *
 generalize ((pw p K PP : Nat) : Int) = P2 at *
 have z1 : IntKind.i64.wrap (1073741789 - (e : Int)) = 1073741789 - (e : Int) := IntWalk.i64_in _ (by omega)
 have z2 : (1073741789 - (e : Int)).tmod 1073741789 = (K : Int) := by rw [Int.tmod_eq_emod_of_nonneg (by omega)]; exact ex
 have z3 : IntKind.i64.wrap (P1 * P2) = P1 * P2 := IntWalk.i64_in _ (by omega)
 have z4 : (P1 * P2).tmod 2147483579 = (B : Int) := by rw [Int.tmod_eq_emod_of_nonneg (by omega)]; exact hb1
 have bw : Below w.heap.size w (w.alloc (.cells #[.int .i64 e, .int .i64 s] 30)) := (Below.refl _ _).alloc (Nat.le_refl _) _
 have k0 : (w.alloc (.cells #[.int .i64 e, .int .i64 s] 30)).cell? ⟨w.heap.size, 0, none⟩ = some (.int .i64 e) := by rw [cell_of_row _ _ _ _ _ _ (heap_alloc_new w _)]; rfl
 have k1 : (w.alloc (.cells #[.int .i64 e, .int .i64 s] 30)).cell? ⟨w.heap.size, 1, none⟩ = some (.int .i64 s) := by rw [cell_of_row _ _ _ _ _ _ (heap_alloc_new w _)]; rfl
 have sz : w.heap.size < (w.alloc (.cells #[.int .i64 e, .int .i64 s] 30)).heap.size := by simp
 have ⟨H_q4a, H_q4b, H_hp, H_he, H_hs, H_hq, H_hpp, H_ex⟩ := hid8 q4a q4b hp he hs hq hpp ex; clear q4a q4b hp he hs hq hpp ex; have ⟨H_hK, H_hback, H_hKK, H_hb1, H_bw, H_hm1, H_hm0, H_z1⟩ := hid8 hK hback hKK hb1 bw hm1 hm0 z1; clear hK hback hKK hb1 bw hm1 hm0 z1; have ⟨H_z2, H_z3, H_z4, H_k0, H_k1, H_sz⟩ := hid6 z2 z3 z4 k0 k1 sz; clear z2 z3 z4 k0 k1 sz
 go_enter Tryz.func91, Tryz.ntmps91
 go_wp2_with fail
 obtain ⟨w1, hw1⟩ : ∃ w1, w.alloc (.cells #[.int .i64 e, .int .i64 s] 30) = w1 := ⟨_, rfl⟩
 rw [hw1]
 have gw1 := H_bw.out
 have k0 := H_k0.out
 have k1 := H_k1.out
 have sz := H_sz.out
 rw [hw1] at gw1 k0 k1 sz
 have z1 := H_z1.out
 have z2 := H_z2.out
 have z3 := H_z3.out
 have z4 := H_z4.out
 have H_hw1 := Lib.hid hw1; clear hw1
 clear H_k0 H_k1 H_sz H_bw
 go_region_held3 (fun W => (∀ b o, b < w1.heap.size → W.cell? ⟨b, o, none⟩ = w1.cell? ⟨b, o, none⟩) ∧ Below w1.heap.size w1 W) (first | (refine ext_mk ?_; exact belt)) (first | (go_at_call 80; ((with_reducible refine (H_q4a.out _).mono ?_); rintro e w2 ⟨rfl, rfl⟩)) | (go_at_call 80; ((with_reducible refine (H_q4b.out _).mono ?_); rintro e w2 ⟨rfl, rfl⟩)))
 all_goals
  clear z1 z2 z3 z4
  go_wp2_with fail
  go_ret
  exact ⟨rfl, held_end gw1 (by assumption)⟩
theorem rverify_no (p e s : Int) (A : Option Addr) (c n : Nat) (w : World) (h : okB p e s = false) :
  Calls Tryz.prog 72 #[.int .i64 p, .agg #[.int .i64 e, .int .i64 s], .slice A n c] w fun x w' => x = .returned (.tuple #[.bool false, .int .i64 1]) ∧ Below w.heap.size w w' := by
 have q1 := fun W => rmember_any p W
 have q2 := fun W => rExponent_any e W
 have q3 := fun W => rExponent_any s W
 unfold okB at h
 generalize memZ p = M at *
 generalize wthB e 0 = N at *
 generalize wthB s 0 = O at *
 have hc : M = false ∨ (M = true ∧ N = false) ∨ (M = true ∧ N = true ∧ O = false) := by cases M <;> cases N <;> simp_all
 rcases hc with rfl | ⟨rfl, rfl⟩ | ⟨rfl, rfl, rfl⟩
 all_goals
  have ⟨H_q1, H_q2, H_q3, H_h⟩ := hid4 q1 q2 q3 h; clear q1 q2 q3 h
  go_enter Tryz.func72, Tryz.ntmps72
  go_wp2_with fail
  refine (H_q1.out _).mono ?_
  rintro e w_ ⟨rfl, rfl⟩
  go_wp2_with fail
  refine (H_q2.out _).mono ?_
  rintro e w_ ⟨rfl, rfl⟩
  go_wp2_with fail
  refine (H_q3.out _).mono ?_
  rintro e w_ ⟨rfl, rfl⟩
  go_wp2_with fail
  go_ret2
  exact ⟨rfl, belt⟩
set_option maxHeartbeats 2000000 in
theorem rverify_yes (p e s : Nat) (A : Option Addr) (c n : Nat) (l : List Int) (hln : l.length = n) (w : World) (hp : memZ p = true) (he : wthB e 0 = true) (hs : wthB s 0 = true) (hl : IntsAt w A .i64 l) (hn : n ≤ 1000) (hf : Fit l) :
  Calls Tryz.prog 72 #[.int .i64 p, .agg #[.int .i64 e, .int .i64 s], .slice A n c] w fun x w' => x = .returned (.tuple #[.bool (rightB p e s l), .int .i64 0]) ∧ Below w.heap.size w w' := by
 have hq : QQ = 1073741789 := rfl
 have hpp : PP = 2147483579 := rfl
 have h1 := memZ_iff.1 hp
 have h2 := wthB_iff.1 he
 have h3 := wthB_iff.1 hs
 have q1 := fun W => rmember_any p W
 have q2 := fun W => rExponent_any e W
 have q3 := fun W => rExponent_any s W
 rw [hp] at q1
 rw [he] at q2
 rw [hs] at q3
 have q4 := fun W => rback_any p e s W (by omega) (by omega) (by omega)
 have hbl := backN_lt p e s
 have q5 := fun W (h : IntsAt W A .i64 l) => rafter_any (backN p e s : Nat) (p : Nat) A c n l hln W h (by omega)
 have q6 := fun W X x (h : IntsAt W X .i64 ((backN p e s : Nat) :: (p : Int) :: l)) => rchal_any X x (2 + n) ((backN p e s : Nat) :: (p : Int) :: l) (by simp [hln]; omega) W h (by omega) (fit_two (by omega) (by omega) hf)
 have hR : rightB p e s l = (e == chN ((backN p e s : Nat) :: (p : Int) :: l)) := rfl
 generalize hCC : chN ((backN p e s : Nat) :: (p : Int) :: l) = C at *
 generalize hLL : ((backN p e s : Nat) : Int) :: (p : Int) :: l = LL at *
 generalize backN p e s = B at *
 have zc : ((C : Int) == (e : Int)) = (e == C) := by rw [nat_beq, Bool.eq_iff_iff, beq_iff_eq, beq_iff_eq]; exact eq_comm
 have bw : Below w.heap.size w (w.alloc (.cells #[.int .i64 e, .int .i64 s] 30)) := (Below.refl _ _).alloc (Nat.le_refl _) _
 have k0 : (w.alloc (.cells #[.int .i64 e, .int .i64 s] 30)).cell? ⟨w.heap.size, 0, none⟩ = some (.int .i64 e) := by rw [cell_of_row _ _ _ _ _ _ (heap_alloc_new w _)]; rfl
 have k1 : (w.alloc (.cells #[.int .i64 e, .int .i64 s] 30)).cell? ⟨w.heap.size, 1, none⟩ = some (.int .i64 s) := by rw [cell_of_row _ _ _ _ _ _ (heap_alloc_new w _)]; rfl
 have sz : w.heap.size < (w.alloc (.cells #[.int .i64 e, .int .i64 s] 30)).heap.size := by simp
 have l1 := hl.below bw
 unfold NewInts at q5
 have ⟨H_q1, H_q2, H_q3, H_q4, H_q5, H_q6, H_hl, H_hf⟩ := hid8 q1 q2 q3 q4 q5 q6 hl hf; clear q1 q2 q3 q4 q5 q6 hl hf; have ⟨H_hln, H_hp, H_he, H_hs, H_h1, H_h2, H_h3, H_hq⟩ := hid8 hln hp he hs h1 h2 h3 hq; clear hln hp he hs h1 h2 h3 hq; have ⟨H_hpp, H_hbl, H_hR, H_hCC, H_hLL, H_bw, H_k0, H_k1⟩ := hid8 hpp hbl hR hCC hLL bw k0 k1; clear hpp hbl hR hCC hLL bw k0 k1; have ⟨H_sz, H_l1, H_zc⟩ := hid3 sz l1 zc; clear sz l1 zc
 go_enter Tryz.func72, Tryz.ntmps72
 go_wp2_with fail
 refine (H_q1.out _).mono ?_
 rintro e w_ ⟨rfl, rfl⟩
 go_wp2_with fail
 refine (H_q2.out _).mono ?_
 rintro e w_ ⟨rfl, rfl⟩
 go_wp2_with fail
 refine (H_q3.out _).mono ?_
 rintro e w_ ⟨rfl, rfl⟩
 go_wp2_with fail
 obtain ⟨w1, hw1⟩ : ∃ w1, w.alloc (.cells #[.int .i64 e, .int .i64 s] 30) = w1 := ⟨_, rfl⟩
 rw [hw1]
 have gw1 := H_bw.out
 have k0 := H_k0.out
 have k1 := H_k1.out
 have sz := H_sz.out
 have l1 := H_l1.out
 rw [hw1] at gw1 k0 k1 sz l1
 have ⟨H_hw1, H_l1⟩ := hid2 hw1 l1; clear hw1 l1
 clear H_k0 H_k1 H_sz H_bw
 go_region_held3 (fun W => (∀ b o, b < w1.heap.size → W.cell? ⟨b, o, none⟩ = w1.cell? ⟨b, o, none⟩) ∧ Below w1.heap.size w1 W) (first | (refine ext_mk ?_; exact belt)) (first | (go_at_call 91; refine (H_q4.out _).mono ?_; rintro e w2 ⟨rfl, hb2⟩) | (go_at_call 90; refine (H_q5.out _ ?_).mono ?_; (focus (exact H_l1.out.below (And.right (by assumption)))); rintro e w2 ⟨X, x, rfl, hX, hb2⟩; have H_hX := Lib.hid hX; clear hX) | (go_at_call 89; refine (H_q6.out _ _ _ ?_).mono ?_; (focus (exact H_hX.out)); rintro e w2 ⟨rfl, hb2⟩))
 all_goals
  go_wp2_with fail
  go_ret2
  rw [H_hR.out, ← H_zc.out]
  exact ⟨rfl, held_end gw1 (by assumption)⟩
def errV (b : Bool) : Int := if b = true then 0 else 1
def verV (p e s : Int) (l : List Int) : Bool := okB p e s && rightB p.toNat e.toNat s.toNat l
theorem nat_of {x lo : Int} (h0 : 0 ≤ lo) (h : wthB x lo = true) : ∃ n : Nat, x = n := ⟨x.toNat, by have := wthB_iff.1 h; omega⟩
theorem nat_mem {a : Int} (h : memZ a = true) : ∃ n : Nat, a = n := ⟨a.toNat, by have := memZ_iff.1 h; omega⟩
theorem verify_all (p e s : Int) (A : Option Addr) (c n : Nat) (l : List Int) (hln : l.length = n) (w : World) (hl : IntsAt w A .i64 l) (hn : n ≤ 1000) (hf : Fit l) (ht : Tab w) :
  Calls Tryz.prog 44 #[.int .i64 p, .agg #[.int .i64 e, .int .i64 s], .slice A n c] w fun x w' => x = .returned (.tuple #[.bool (verV p e s l), .int .i64 (errV (okB p e s))]) ∧ Below w.heap.size w w' := by
 by_cases h : okB p e s = true
 ·rw [verV, errV, if_pos h, h, Bool.true_and]
  simp only [okB, Bool.and_eq_true] at h
  obtain ⟨p, rfl⟩ := nat_mem h.1.1
  obtain ⟨e, rfl⟩ := nat_of (by omega) h.1.2
  obtain ⟨s, rfl⟩ := nat_of (by omega) h.2
  exact verify_yes p e s A c n l hln w h.1.1 h.1.2 h.2 hl (by omega) hf ht
 ·rw [Bool.not_eq_true] at h
  rw [verV, errV, h, Bool.false_and, if_neg (by simp)]; exact verify_no p e s A c n w h
theorem rverify_all (p e s : Int) (A : Option Addr) (c n : Nat) (l : List Int) (hln : l.length = n) (w : World) (hl : IntsAt w A .i64 l) (hn : n ≤ 1000) (hf : Fit l) :
  Calls Tryz.prog 72 #[.int .i64 p, .agg #[.int .i64 e, .int .i64 s], .slice A n c] w fun x w' => x = .returned (.tuple #[.bool (verV p e s l), .int .i64 (errV (okB p e s))]) ∧ Below w.heap.size w w' := by
 by_cases h : okB p e s = true
 ·rw [verV, errV, if_pos h, h, Bool.true_and]
  simp only [okB, Bool.and_eq_true] at h
  obtain ⟨p, rfl⟩ := nat_mem h.1.1
  obtain ⟨e, rfl⟩ := nat_of (by omega) h.1.2
  obtain ⟨s, rfl⟩ := nat_of (by omega) h.2
  exact rverify_yes p e s A c n l hln w h.1.1 h.1.2 h.2 hl hn hf
 ·rw [Bool.not_eq_true] at h
  rw [verV, errV, h, Bool.false_and, if_neg (by simp)]; exact rverify_no p e s A c n w h
set_option maxHeartbeats 4000000 in
theorem rccheck_any (c : Crd) (p : Int) (hc : CFit c) (w : World) :
  Calls Tryz.prog 37 #[.agg c.cells.toArray, .int .i64 p] w fun e w' => e = .returned (.tuple #[.bool (chkB c p), .int .i64 (chkE c p)]) ∧ Below w.heap.size w w' := by
 have q1 := fun W => rcvalid_any c hc W
 cases hv : cvB c with
 | false =>
  have e1 : chkB c p = false := by simp [chkB, hv]
  have e2 : chkE c p = 1 := by simp [chkE, hv]
  rw [hv] at q1
  rw [e1, e2]
  unfold Crd.cells at q1 ⊢
  have ⟨H_hc, H_q1, H_hv, H_e1, H_e2⟩ := hid5 hc q1 hv e1 e2; clear hc q1 hv e1 e2
  go_enter Tryz.func37, Tryz.ntmps37
  go_wp2_with fail
  refine (H_q1.out _).mono ?_; rintro e w2 ⟨rfl, hbw2⟩
  have hsw2 := hbw2.size; (try simp only [World.size_alloc, World.heap_drewN, World.size_setCell, heap_drew] at hsw2)
  have gw2 : Below w.heap.size w w2 := belt
  have kw2x0x0 := keepc hbw2 (b := w.heap.size) (o := 0) omg (by go_simp; with_reducible rfl)
  have kw2x0x1 := keepc hbw2 (b := w.heap.size) (o := 1) omg (by go_simp; with_reducible rfl)
  have kw2x0x2 := keepc hbw2 (b := w.heap.size) (o := 2) omg (by go_simp; with_reducible rfl)
  have kw2x0x3 := keepc hbw2 (b := w.heap.size) (o := 3) omg (by go_simp; with_reducible rfl)
  have kw2x0x4 := keepc hbw2 (b := w.heap.size) (o := 4) omg (by go_simp; with_reducible rfl)
  have kw2x0x5 := keepc hbw2 (b := w.heap.size) (o := 5) omg (by go_simp; with_reducible rfl)
  have kw2x0x6 := keepc hbw2 (b := w.heap.size) (o := 6) omg (by go_simp; with_reducible rfl)
  have kw2x0x7 := keepc hbw2 (b := w.heap.size) (o := 7) omg (by go_simp; with_reducible rfl)
  have kw2x0x8 := keepc hbw2 (b := w.heap.size) (o := 8) omg (by go_simp; with_reducible rfl)
  have zw2x0 : w.heap.size < w2.heap.size := by omega
  have H_hbw2 := Lib.hid hbw2; clear hbw2
  go_wp2_with fail
  go_ret2
  exact ⟨rfl, gw2⟩
 | true =>
  rw [hv] at q1
  have q2 := fun W => rmessage_any c W
  unfold NewInts7 at q2
  have hfm := hc.msg
  have hb := (cvB_iff.1 hv).1
  have he : wthB c.e 0 = true := wthB_iff.2 (by obtain ⟨h1, h2, _⟩ := hb; omega)
  have hs : wthB c.s 0 = true := wthB_iff.2 (by obtain ⟨h1, h2, _⟩ := hb; omega)
  have hok : okB p c.e c.s = memZ p := by rw [okB, he, hs, Bool.and_true, Bool.and_true]
  have post : ∀ W X, IntsAt W X .i64 c.msg → Calls Tryz.prog 72 #[.int .i64 p, .agg #[.int .i64 c.e, .int .i64 c.s], .slice X 7 7] W fun e w' => e = .returned (.tuple #[.bool (chkB c p), .int .i64 (chkE c p)]) ∧ Below W.heap.size W w' := fun W X h1 => by
   have h := rverify_all p c.e c.s X 7 7 c.msg rfl W h1 (by omega) hfm
   rw [errV, verV, hok] at h
   rw [chkB, chkE, hv, Bool.true_and]
   exact h
  generalize chkB c p = R at *
  generalize chkE c p = EE at *
  generalize c.msg = M at *
  unfold Crd.cells at q1 q2 ⊢
  have ⟨H_hc, H_q1, H_q2, H_hv, H_hfm, H_hb, H_he, H_hs⟩ := hid8 hc q1 q2 hv hfm hb he hs; clear hc q1 q2 hv hfm hb he hs; have ⟨H_hok, H_post⟩ := hid2 hok post; clear hok post
  go_enter Tryz.func37, Tryz.ntmps37
  go_wp2_with fail
  refine (H_q1.out _).mono ?_; rintro e w2 ⟨rfl, hbw2⟩
  have hsw2 := hbw2.size; (try simp only [World.size_alloc, World.heap_drewN, World.size_setCell, heap_drew] at hsw2)
  have gw2 : Below w.heap.size w w2 := belt
  have kw2x0x0 := keepc hbw2 (b := w.heap.size) (o := 0) omg (by go_simp; with_reducible rfl)
  have kw2x0x1 := keepc hbw2 (b := w.heap.size) (o := 1) omg (by go_simp; with_reducible rfl)
  have kw2x0x2 := keepc hbw2 (b := w.heap.size) (o := 2) omg (by go_simp; with_reducible rfl)
  have kw2x0x3 := keepc hbw2 (b := w.heap.size) (o := 3) omg (by go_simp; with_reducible rfl)
  have kw2x0x4 := keepc hbw2 (b := w.heap.size) (o := 4) omg (by go_simp; with_reducible rfl)
  have kw2x0x5 := keepc hbw2 (b := w.heap.size) (o := 5) omg (by go_simp; with_reducible rfl)
  have kw2x0x6 := keepc hbw2 (b := w.heap.size) (o := 6) omg (by go_simp; with_reducible rfl)
  have kw2x0x7 := keepc hbw2 (b := w.heap.size) (o := 7) omg (by go_simp; with_reducible rfl)
  have kw2x0x8 := keepc hbw2 (b := w.heap.size) (o := 8) omg (by go_simp; with_reducible rfl)
  have zw2x0 : w.heap.size < w2.heap.size := by omega
  have H_hbw2 := Lib.hid hbw2; clear hbw2
  go_wp2_with fail
  go_region_held3 (fun W => (∀ b o, b < w2.heap.size → W.cell? ⟨b, o, none⟩ = w2.cell? ⟨b, o, none⟩) ∧ Below w2.heap.size w2 W) (first | (refine ext_mk ?_; exact belt)) (first | ((go_at_call 73; (with_reducible refine (H_q2.out _).mono ?_); rintro e w3 ⟨b3, rfl, hi3, hlo3, hbw3⟩; have gw3 := Below.trans (And.right (by assumption : _ ∧ Below w2.heap.size w2 _)) (hbw3.mono (Below.size (And.right (by assumption : _ ∧ Below w2.heap.size w2 _)))); have gsw3 := gw3.size; have hcf := bcell hbw3; have hcw3 := hcf.1; have hfw3 := hcf.2; have hsw3 := hbw3.size; (try simp only [World.size_alloc, World.heap_drewN, heap_drew] at hsw3); clear hbw3 hcf; (try have hzw3 : w2.heap.size < w3.heap.size := by omega))) | (go_at_call 72; (with_reducible refine (H_post.out _ _ hi3).mono ?_); rintro e w4 ⟨rfl, hbw4⟩; have gw4 := Below.trans (And.right (by assumption : _ ∧ Below w2.heap.size w2 _)) (hbw4.mono (Below.size (And.right (by assumption : _ ∧ Below w2.heap.size w2 _)))); have gsw4 := gw4.size; have hcf := bcell hbw4; have hcw4 := hcf.1; have hfw4 := hcf.2; have hsw4 := hbw4.size; (try simp only [World.size_alloc, World.heap_drewN, heap_drew] at hsw4); clear hbw4 hcf; (try have hzw4 : w2.heap.size < w4.heap.size := by omega)))
  all_goals
   have gF : Below w2.heap.size w2 _ := And.right (by assumption)
   go_wp2_with fail
   go_ret2
   exact ⟨rfl, gw2.trans (gF.mono gw2.size)⟩
end Go.Proofs.YtoehobaigfmnpaaGreatDoor

/- The reference of doors: Cards, Revoked, Newer, May, Counts. -/
import Derived.Test.YtclgncaghiinhaaGreatDoorT7
import Derived.Test.YtclgncaghiinhaaGreatDoorT13
import Derived.Test.YtclgncaghiinhaaGreatDoorT17
import Derived.Test.YtclgncaghiinhaaGreatDoorT32
import Derived.Test.YtclgncaghiinhaaGreatDoorT33
import Derived.Test.YtclgncaghiinhaaGreatDoorT35
import Derived.Test.YtclgncaghiinhaaGreatDoorT36
import Derived.Test.YtclgncaghiinhaaGreatDoorT40
set_option linter.unusedSimpArgs false
set_option linter.unusedVariables false
set_option maxRecDepth 100000
namespace Go.Proofs.YtclgncaghiinhaaGreatDoor
open Go.RowKit
section
open Go.RowKit Go.Maps
/-- two new slots -/
def Two (w wx : World) (g h : Nat) (u v : Array Value) : Prop := (w.heap.size ≤ g ∧ w.heap.size ≤ h ∧ g ≠ h) ∧ Blk wx g u ∧ Blk wx h v ∧ Below w.heap.size w wx
theorem Two.drew {w wx : World} {g h : Nat} {u v : Array Value} (t : Two w wx g h u v) : Two w wx.drew g h u v := ⟨t.1, t.2.1.below (Below.refl _ _).drew, t.2.2.1.below (Below.refl _ _).drew, t.2.2.2.drew⟩
section
variable {w w2 : World} {U V : Array Value} {t t' : TypeId} {g h : Nat} {z0 z1 z2 z3 y0 y1 y2 y3 a0 a1 a2 a3 b0 b1 b2 b3 : Value}
end
end
theorem cards_all {cs : List Crd} {w : World} {X : Option Addr} (h : Cards w X cs) {j : Nat} {c : Crd} (hc : cs[j]? = some c) : CFit c := h.fit c (List.mem_of_getElem? hc)
/-- what a run that goes through says, by its showings -/
theorem ran {ls : List Lk} {cs : List Crd} {ss : List Sh4} (h : runB ls cs ss = true) : runW ls cs ss = runO cs ls (ss.map Sh4.shw) ∧ (runW ls cs ss).length = ss.length ∧ runN ls cs ss = 0 ∧ runL ls cs ss = runS cs ls (ss.map Sh4.shw) ∧ (runL ls cs ss).length = ls.length := by
 rw [runW, runN, runL, if_pos h, if_pos h, if_pos h, runO_len, List.length_map, runS_len]; exact ⟨rfl, rfl, rfl, rfl, rfl⟩
theorem ran_not {ls : List Lk} {cs : List Crd} {ss : List Sh4} (h : runB ls cs ss = false) : runW ls cs ss = [] ∧ runN ls cs ss = 1 ∧ runL ls cs ss = [] := by
 have h2 : ¬ runB ls cs ss = true := by rw [h]; simp
 rw [runW, runN, runL, if_neg h2, if_neg h2, if_neg h2]; exact ⟨rfl, rfl, rfl⟩
/-- a showing that is right, in numbers -/
theorem good_nat {nl nc : Nat} {s : Sh4} (h : GoodS nl nc s) : ∃ i j : Nat, s.a = i ∧ s.b = j ∧ i < nl ∧ j < nc ∧ s.shw = ⟨i, j, s.c, s.d⟩ := by
 have a0 := h.a0; have a1 := h.a1; have b0 := h.b0; have b1 := h.b1
 exact ⟨s.a.toNat, s.b.toNat, by omega, by omega, by omega, by omega, rfl⟩
set_option maxHeartbeats 2000000 in
theorem rback_any (p e s : Nat) (w : World) (hp : p < PP) (he : e < QQ) (hs : s < QQ) :
  Calls Tryz.prog 98 #[.int .i64 p, .agg #[.int .i64 e, .int .i64 s]] w fun x w' => x = .returned (.int .i64 (backN p e s : Nat)) ∧ Below w.heap.size w w' := by
 have hq : QQ = 1073741789 := rfl
 have hpp : PP = 2147483579 := rfl
 have ex := exp_eq e he
 have hK : (QQ - e) % QQ < QQ := Nat.mod_lt _ (by decide)
 have hback : backN p e s = pw 4 s PP * pw p ((QQ - e) % QQ) PP % PP := rfl
 generalize hKK : (QQ - e) % QQ = K at *
 have hb1 := cast_mulmod (pw 4 s PP) (pw p K PP)
 rw [← hback] at hb1
 have hm1 := mul_lt31 (pw_lt (a := 4) (x := s) (m := PP) (by decide)) (pw_lt (a := p) (x := K) (m := PP) (by decide))
 have hm0 : 0 ≤ ((pw 4 s PP : Nat) : Int) * ((pw p K PP : Nat) : Int) := Int.mul_nonneg (by omega) (by omega)
 generalize backN p e s = B at *
 have q4a : ∀ W, Calls Tryz.prog 76 #[.int .i64 4, .int .i64 s, .int .i64 2147483579] W fun e w' => e = .returned (.int .i64 (pw 4 s PP : Nat)) ∧ W = w' := fun W => rpowP 4 s W (by decide) (by omega)
 have q4b := fun W => rpowP p K W hp (by omega)
 generalize ((pw 4 s PP : Nat) : Int) = P1 at *
 generalize ((pw p K PP : Nat) : Int) = P2 at *
 have z1 : IntKind.i64.wrap (1073741789 - (e : Int)) = 1073741789 - (e : Int) := IntWalk.i64_in _ (by omega)
 have z2 : (1073741789 - (e : Int)).tmod 1073741789 = (K : Int) := by rw [Int.tmod_eq_emod_of_nonneg (by omega)]; exact ex
 have z3 : IntKind.i64.wrap (P1 * P2) = P1 * P2 := IntWalk.i64_in _ (by omega)
 have z4 : (P1 * P2).tmod 2147483579 = (B : Int) := by rw [Int.tmod_eq_emod_of_nonneg (by omega)]; exact hb1
 have bw : Below w.heap.size w (w.alloc (.cells #[.int .i64 e, .int .i64 s] 26)) := (Below.refl _ _).alloc (Nat.le_refl _) _
 have k0 : (w.alloc (.cells #[.int .i64 e, .int .i64 s] 26)).cell? ⟨w.heap.size, 0, none⟩ = some (.int .i64 e) := by rw [cell_of_row _ _ _ _ _ _ (heap_alloc_new w _)]; rfl
 have k1 : (w.alloc (.cells #[.int .i64 e, .int .i64 s] 26)).cell? ⟨w.heap.size, 1, none⟩ = some (.int .i64 s) := by rw [cell_of_row _ _ _ _ _ _ (heap_alloc_new w _)]; rfl
 have sz : w.heap.size < (w.alloc (.cells #[.int .i64 e, .int .i64 s] 26)).heap.size := by simp
 have ⟨Hq4a, Hq4b, Hhp, Hhe, Hhs, Hhq, Hhpp, Hex⟩ := hid8 q4a q4b hp he hs hq hpp ex; clear q4a q4b hp he hs hq hpp ex; have ⟨HhK, Hhback, HhKK, Hhb1, Hbw, Hhm1, Hhm0, Hz1⟩ := hid8 hK hback hKK hb1 bw hm1 hm0 z1; clear hK hback hKK hb1 bw hm1 hm0 z1; have ⟨Hz2, Hz3, Hz4, Hk0, Hk1, Hsz⟩ := hid6 z2 z3 z4 k0 k1 sz; clear z2 z3 z4 k0 k1 sz
 go_enter Tryz.func98, Tryz.ntmps98
 go_wp2_with fail
 obtain ⟨w1, hw1⟩ : ∃ w1, w.alloc (.cells #[.int .i64 e, .int .i64 s] 26) = w1 := ⟨_, rfl⟩
 rw [hw1]
 have gw1 := Hbw.out
 have k0 := Hk0.out
 have k1 := Hk1.out
 have sz := Hsz.out
 rw [hw1] at gw1 k0 k1 sz
 have z1 := Hz1.out
 have z2 := Hz2.out
 have z3 := Hz3.out
 have z4 := Hz4.out
 have Hhw1 := Lib.hid hw1; clear hw1
 clear Hk0 Hk1 Hsz Hbw
 go_region_held3 (fun W => (∀ b o, b < w1.heap.size → W.cell? ⟨b, o, none⟩ = w1.cell? ⟨b, o, none⟩) ∧ Below w1.heap.size w1 W) (first | (refine ext_mk ?_; exact belt)) (first | (go_at_call 76; ((with_reducible refine (Hq4a.out _).mono ?_); rintro e w2 ⟨rfl, rfl⟩)) | (go_at_call 76; ((with_reducible refine (Hq4b.out _).mono ?_); rintro e w2 ⟨rfl, rfl⟩)))
 all_goals
  clear z1 z2 z3 z4
  go_wp2_with fail
  go_ret
  exact ⟨rfl, held_end gw1 (by assumption)⟩
theorem rverify_no (p e s : Int) (A : Option Addr) (c n : Nat) (w : World) (h : okB p e s = false) :
  Calls Tryz.prog 77 #[.int .i64 p, .agg #[.int .i64 e, .int .i64 s], .slice A n c] w fun x w' => x = .returned (.tuple #[.bool false, .int .i64 1]) ∧ Below w.heap.size w w' := by
 have q1 := fun W => rmember_any p W
 have q2 := fun W => rExponent_any e W
 have q3 := fun W => rExponent_any s W
 unfold okB at h
 generalize memZ p = M at *
 generalize wthB e 0 = N at *
 generalize wthB s 0 = O at *
 have hc : M = false ∨ (M = true ∧ N = false) ∨ (M = true ∧ N = true ∧ O = false) := by cases M <;> cases N <;> simp_all
 rcases hc with rfl | ⟨rfl, rfl⟩ | ⟨rfl, rfl, rfl⟩
 all_goals
  have ⟨Hq1, Hq2, Hq3, Hh⟩ := hid4 q1 q2 q3 h; clear q1 q2 q3 h
  go_enter Tryz.func77, Tryz.ntmps77
  go_wp2_with fail
  refine (Hq1.out _).mono ?_
  rintro e w_ ⟨rfl, rfl⟩
  go_wp2_with fail
  refine (Hq2.out _).mono ?_
  rintro e w_ ⟨rfl, rfl⟩
  go_wp2_with fail
  refine (Hq3.out _).mono ?_
  rintro e w_ ⟨rfl, rfl⟩
  go_wp2_with fail
  go_ret2
  exact ⟨rfl, belt⟩
set_option maxHeartbeats 2000000 in
theorem rverify_yes (p e s : Nat) (A : Option Addr) (c n : Nat) (l : List Int) (hln : l.length = n) (w : World) (hp : memZ p = true) (he : wthB e 0 = true) (hs : wthB s 0 = true) (hl : IntsAt w A .i64 l) (hn : n ≤ 1000) (hf : Fit l) :
  Calls Tryz.prog 77 #[.int .i64 p, .agg #[.int .i64 e, .int .i64 s], .slice A n c] w fun x w' => x = .returned (.tuple #[.bool (rightB p e s l), .int .i64 0]) ∧ Below w.heap.size w w' := by
 have hq : QQ = 1073741789 := rfl
 have hpp : PP = 2147483579 := rfl
 have h1 := memZ_iff.1 hp
 have h2 := wthB_iff.1 he
 have h3 := wthB_iff.1 hs
 have q1 := fun W => rmember_any p W
 have q2 := fun W => rExponent_any e W
 have q3 := fun W => rExponent_any s W
 rw [hp] at q1
 rw [he] at q2
 rw [hs] at q3
 have q4 := fun W => rback_any p e s W (by omega) (by omega) (by omega)
 have hbl := backN_lt p e s
 have q5 := fun W (h : IntsAt W A .i64 l) => rafter_any (backN p e s : Nat) (p : Nat) A c n l hln W h (by omega)
 have q6 := fun W X x (h : IntsAt W X .i64 ((backN p e s : Nat) :: (p : Int) :: l)) => rchal_any X x (2 + n) ((backN p e s : Nat) :: (p : Int) :: l) (by simp [hln]; omega) W h (by omega) (fit_two (by omega) (by omega) hf)
 have hR : rightB p e s l = (e == chN ((backN p e s : Nat) :: (p : Int) :: l)) := rfl
 generalize hCC : chN ((backN p e s : Nat) :: (p : Int) :: l) = C at *
 generalize hLL : ((backN p e s : Nat) : Int) :: (p : Int) :: l = LL at *
 generalize backN p e s = B at *
 have zc : ((C : Int) == (e : Int)) = (e == C) := by rw [nat_beq, Bool.eq_iff_iff, beq_iff_eq, beq_iff_eq]; exact eq_comm
 have bw : Below w.heap.size w (w.alloc (.cells #[.int .i64 e, .int .i64 s] 26)) := (Below.refl _ _).alloc (Nat.le_refl _) _
 have k0 : (w.alloc (.cells #[.int .i64 e, .int .i64 s] 26)).cell? ⟨w.heap.size, 0, none⟩ = some (.int .i64 e) := by rw [cell_of_row _ _ _ _ _ _ (heap_alloc_new w _)]; rfl
 have k1 : (w.alloc (.cells #[.int .i64 e, .int .i64 s] 26)).cell? ⟨w.heap.size, 1, none⟩ = some (.int .i64 s) := by rw [cell_of_row _ _ _ _ _ _ (heap_alloc_new w _)]; rfl
 have sz : w.heap.size < (w.alloc (.cells #[.int .i64 e, .int .i64 s] 26)).heap.size := by simp
 have l1 := hl.below bw
 unfold NewInts at q5
 have ⟨Hq1, Hq2, Hq3, Hq4, Hq5, Hq6, Hhl, Hhf⟩ := hid8 q1 q2 q3 q4 q5 q6 hl hf; clear q1 q2 q3 q4 q5 q6 hl hf; have ⟨Hhln, Hhp, Hhe, Hhs, Hh1, Hh2, Hh3, Hhq⟩ := hid8 hln hp he hs h1 h2 h3 hq; clear hln hp he hs h1 h2 h3 hq; have ⟨Hhpp, Hhbl, HhR, HhCC, HhLL, Hbw, Hk0, Hk1⟩ := hid8 hpp hbl hR hCC hLL bw k0 k1; clear hpp hbl hR hCC hLL bw k0 k1; have ⟨Hsz, Hl1, Hzc⟩ := hid3 sz l1 zc; clear sz l1 zc
 go_enter Tryz.func77, Tryz.ntmps77
 go_wp2_with fail
 refine (Hq1.out _).mono ?_
 rintro e w_ ⟨rfl, rfl⟩
 go_wp2_with fail
 refine (Hq2.out _).mono ?_
 rintro e w_ ⟨rfl, rfl⟩
 go_wp2_with fail
 refine (Hq3.out _).mono ?_
 rintro e w_ ⟨rfl, rfl⟩
 go_wp2_with fail
 obtain ⟨w1, hw1⟩ : ∃ w1, w.alloc (.cells #[.int .i64 e, .int .i64 s] 26) = w1 := ⟨_, rfl⟩
 rw [hw1]
 have gw1 := Hbw.out
 have k0 := Hk0.out
 have k1 := Hk1.out
 have sz := Hsz.out
 have l1 := Hl1.out
 rw [hw1] at gw1 k0 k1 sz l1
 have ⟨Hhw1, Hl1⟩ := hid2 hw1 l1; clear hw1 l1
 clear Hk0 Hk1 Hsz Hbw
 go_region_held3 (fun W => (∀ b o, b < w1.heap.size → W.cell? ⟨b, o, none⟩ = w1.cell? ⟨b, o, none⟩) ∧ Below w1.heap.size w1 W) (first | (refine ext_mk ?_; exact belt)) (first | (go_at_call 98; refine (Hq4.out _).mono ?_; rintro e w2 ⟨rfl, hb2⟩) | (go_at_call 97; refine (Hq5.out _ ?_).mono ?_; (focus (exact Hl1.out.below (And.right (by assumption)))); rintro e w2 ⟨X, x, rfl, hX, hb2⟩; have HhX := Lib.hid hX; clear hX) | (go_at_call 96; refine (Hq6.out _ _ _ ?_).mono ?_; (focus (exact HhX.out)); rintro e w2 ⟨rfl, hb2⟩))
 all_goals
  go_wp2_with fail
  go_ret2
  rw [HhR.out, ← Hzc.out]
  exact ⟨rfl, held_end gw1 (by assumption)⟩
def errV (b : Bool) : Int := if b = true then 0 else 1
def verV (p e s : Int) (l : List Int) : Bool := okB p e s && rightB p.toNat e.toNat s.toNat l
theorem nat_of {x lo : Int} (h0 : 0 ≤ lo) (h : wthB x lo = true) : ∃ n : Nat, x = n := ⟨x.toNat, by have := wthB_iff.1 h; omega⟩
theorem nat_mem {a : Int} (h : memZ a = true) : ∃ n : Nat, a = n := ⟨a.toNat, by have := memZ_iff.1 h; omega⟩
theorem verify_all (p e s : Int) (A : Option Addr) (c n : Nat) (l : List Int) (hln : l.length = n) (w : World) (hl : IntsAt w A .i64 l) (hn : n ≤ 1000) (hf : Fit l) (ht : Tab w) :
  Calls Tryz.prog 75 #[.int .i64 p, .agg #[.int .i64 e, .int .i64 s], .slice A n c] w fun x w' => x = .returned (.tuple #[.bool (verV p e s l), .int .i64 (errV (okB p e s))]) ∧ Below w.heap.size w w' := by
 by_cases h : okB p e s = true
 ·rw [verV, errV, if_pos h, h, Bool.true_and]
  simp only [okB, Bool.and_eq_true] at h
  obtain ⟨p, rfl⟩ := nat_mem h.1.1
  obtain ⟨e, rfl⟩ := nat_of (by omega) h.1.2
  obtain ⟨s, rfl⟩ := nat_of (by omega) h.2
  exact verify_yes p e s A c n l hln w h.1.1 h.1.2 h.2 hl (by omega) hf ht
 ·rw [Bool.not_eq_true] at h
  rw [verV, errV, h, Bool.false_and, if_neg (by simp)]; exact verify_no p e s A c n w h
theorem rverify_all (p e s : Int) (A : Option Addr) (c n : Nat) (l : List Int) (hln : l.length = n) (w : World) (hl : IntsAt w A .i64 l) (hn : n ≤ 1000) (hf : Fit l) :
  Calls Tryz.prog 77 #[.int .i64 p, .agg #[.int .i64 e, .int .i64 s], .slice A n c] w fun x w' => x = .returned (.tuple #[.bool (verV p e s l), .int .i64 (errV (okB p e s))]) ∧ Below w.heap.size w w' := by
 by_cases h : okB p e s = true
 ·rw [verV, errV, if_pos h, h, Bool.true_and]
  simp only [okB, Bool.and_eq_true] at h
  obtain ⟨p, rfl⟩ := nat_mem h.1.1
  obtain ⟨e, rfl⟩ := nat_of (by omega) h.1.2
  obtain ⟨s, rfl⟩ := nat_of (by omega) h.2
  exact rverify_yes p e s A c n l hln w h.1.1 h.1.2 h.2 hl hn hf
 ·rw [Bool.not_eq_true] at h
  rw [verV, errV, h, Bool.false_and, if_neg (by simp)]; exact rverify_no p e s A c n w h
set_option maxHeartbeats 4000000 in
theorem rccheck_any (c : Crd) (p : Int) (hc : CFit c) (w : World) :
  Calls Tryz.prog 42 #[.agg c.cells.toArray, .int .i64 p] w fun e w' => e = .returned (.tuple #[.bool (chkB c p), .int .i64 (chkE c p)]) ∧ Below w.heap.size w w' := by
 have q1 := fun W => rcvalid_any c hc W
 cases hv : cvB c with
 | false =>
  have e1 : chkB c p = false := by simp [chkB, hv]
  have e2 : chkE c p = 1 := by simp [chkE, hv]
  rw [hv] at q1
  rw [e1, e2]
  unfold Crd.cells at q1 ⊢
  have ⟨Hhc, Hq1, Hhv, He1, He2⟩ := hid5 hc q1 hv e1 e2; clear hc q1 hv e1 e2
  go_enter Tryz.func42, Tryz.ntmps42
  go_wp2_with fail
  refine (Hq1.out _).mono ?_; rintro e w2 ⟨rfl, hbw2⟩
  have hsw2 := hbw2.size; (try simp only [World.size_alloc, World.heap_drewN, World.size_setCell, heap_drew] at hsw2)
  have gw2 : Below w.heap.size w w2 := belt
  obtain ⟨kw2x0x0, kw2x0x1, kw2x0x2, kw2x0x3, kw2x0x4, kw2x0x5, kw2x0x6, kw2x0x7, kw2x0x8⟩ := kc9 hbw2 w.heap.size
  have zw2x0 : w.heap.size < w2.heap.size := by omega
  have Hhbw2 := Lib.hid hbw2; clear hbw2
  go_wp2_with fail
  go_ret2
  exact ⟨rfl, gw2⟩
 | true =>
  rw [hv] at q1
  have q2 := fun W => rmessage_any c W
  unfold NewInts7 at q2
  have hfm := hc.msg
  have hb := (cvB_iff.1 hv).1
  have he : wthB c.e 0 = true := wthB_iff.2 (by obtain ⟨h1, h2, _⟩ := hb; omega)
  have hs : wthB c.s 0 = true := wthB_iff.2 (by obtain ⟨h1, h2, _⟩ := hb; omega)
  have hok : okB p c.e c.s = memZ p := by rw [okB, he, hs, Bool.and_true, Bool.and_true]
  have post : ∀ W X, IntsAt W X .i64 c.msg → Calls Tryz.prog 77 #[.int .i64 p, .agg #[.int .i64 c.e, .int .i64 c.s], .slice X 7 7] W fun e w' => e = .returned (.tuple #[.bool (chkB c p), .int .i64 (chkE c p)]) ∧ Below W.heap.size W w' := fun W X h1 => by
   have h := rverify_all p c.e c.s X 7 7 c.msg rfl W h1 (by omega) hfm
   rw [errV, verV, hok] at h
   rw [chkB, chkE, hv, Bool.true_and]
   exact h
  generalize chkB c p = R at *
  generalize chkE c p = EE at *
  generalize c.msg = M at *
  unfold Crd.cells at q1 q2 ⊢
  have ⟨Hhc, Hq1, Hq2, Hhv, Hhfm, Hhb, Hhe, Hhs⟩ := hid8 hc q1 q2 hv hfm hb he hs; clear hc q1 q2 hv hfm hb he hs; have ⟨Hhok, Hpost⟩ := hid2 hok post; clear hok post
  go_enter Tryz.func42, Tryz.ntmps42
  go_wp2_with fail
  refine (Hq1.out _).mono ?_; rintro e w2 ⟨rfl, hbw2⟩
  have hsw2 := hbw2.size; (try simp only [World.size_alloc, World.heap_drewN, World.size_setCell, heap_drew] at hsw2)
  have gw2 : Below w.heap.size w w2 := belt
  obtain ⟨kw2x0x0, kw2x0x1, kw2x0x2, kw2x0x3, kw2x0x4, kw2x0x5, kw2x0x6, kw2x0x7, kw2x0x8⟩ := kc9 hbw2 w.heap.size
  have zw2x0 : w.heap.size < w2.heap.size := by omega
  have Hhbw2 := Lib.hid hbw2; clear hbw2
  go_wp2_with fail
  go_region_held3 (fun W => (∀ b o, b < w2.heap.size → W.cell? ⟨b, o, none⟩ = w2.cell? ⟨b, o, none⟩) ∧ Below w2.heap.size w2 W) (first | (refine ext_mk ?_; exact belt)) (first | ((go_at_call 78; (with_reducible refine (Hq2.out _).mono ?_); rintro e w3 ⟨b3, rfl, hi3, hlo3, hbw3⟩; have gw3 := Below.trans (And.right (by assumption : _ ∧ Below w2.heap.size w2 _)) (hbw3.mono (Below.size (And.right (by assumption : _ ∧ Below w2.heap.size w2 _)))); have gsw3 := gw3.size; have hcf := bcell hbw3; have hcw3 := hcf.1; have hfw3 := hcf.2; have hsw3 := hbw3.size; (try simp only [World.size_alloc, World.heap_drewN, heap_drew] at hsw3); clear hbw3 hcf; (try have hzw3 : w2.heap.size < w3.heap.size := by omega))) | (go_at_call 77; (with_reducible refine (Hpost.out _ _ hi3).mono ?_); rintro e w4 ⟨rfl, hbw4⟩; have gw4 := Below.trans (And.right (by assumption : _ ∧ Below w2.heap.size w2 _)) (hbw4.mono (Below.size (And.right (by assumption : _ ∧ Below w2.heap.size w2 _)))); have gsw4 := gw4.size; have hcf := bcell hbw4; have hcw4 := hcf.1; have hfw4 := hcf.2; have hsw4 := hbw4.size; (try simp only [World.size_alloc, World.heap_drewN, heap_drew] at hsw4); clear hbw4 hcf; (try have hzw4 : w2.heap.size < w4.heap.size := by omega)))
  all_goals
   have gF : Below w2.heap.size w2 _ := And.right (by assumption)
   go_wp2_with fail
   go_ret2
   exact ⟨rfl, gw2.trans (gF.mono gw2.size)⟩
set_option maxHeartbeats 4000000 in
theorem rccards_any (A : Option Addr) (cp n : Nat) (l : List Crd) (hln : l.length = n) (hn : n ≤ 9223372036854775807) (w : World) (hl : Cards w A l) :
  Calls Tryz.prog 15 #[.slice A n cp] w fun e w' => e = .returned (.bool (cdsB l)) ∧ Below w.heap.size w w' := by
 obtain ⟨T, hT⟩ : ∃ T, decide (n ≤ 500) = T := ⟨_, rfl⟩
 have e0 : cdsB l = (T && allV l) := by rw [cdsB, hln, hT]
 rw [e0]
 have i5 : decide ((n : Int) ≤ 500) = T := by rw [← hT]; exact decide_eq_decide.2 (by omega)
 generalize hR : allV l = R
 have h0 : R = allV (l.drop 0) := by rw [List.drop_zero]; exact hR.symm
 have ⟨Hhl, Hhln, HhR, Hh0, He0, HhT⟩ := hid6 hl hln hR h0 e0 hT; clear hl hln hR h0 e0 hT
 go_enter Tryz.func15, Tryz.ntmps15
 go_wp2_with fail
 go_loopw [3] (fun i wr => ∃ (k : Nat), k ≤ n ∧ i = .int .i64 k ∧ R = allV (l.drop k) ∧ Below w.heap.size w wr) (fun i _ => n - (intOf i).toNat)
 case atStart => exact ⟨0, by omega, rfl, Hh0.out, Below.refl _ _⟩
 case round =>
  obtain ⟨k, hk, rfl, hRk, hb⟩ := hrel
  by_cases hlt : k < n
  ·obtain ⟨c, hc⟩ : ∃ c, l[k]? = some c := ⟨_, List.getElem?_eq_getElem (by rw [Hhln.out]; exact hlt)⟩
   obtain ⟨b, off, rfl, hbl, hf, c0, c1, c2, c3, c4, c5, c6, c7, c8⟩ := (Hhl.out.below hb).at hc
   rw [allV_drop hc] at hRk
   have q := rcvalid_any c hf wr
   unfold Crd.cells at q
   generalize cvB c = X at *
   have g1 : (k : Int) < (n : Int) := by omega
   have g0 : (0 : Int) ≤ (k : Int) := by omega
   have ⟨Hq, HhRk, Hhf, Hhc, Hhb⟩ := hid5 q hRk hf hc hb; clear q hRk hf hc hb
   go_wp2_with fail
   refine Hq.out.mono ?_
   rintro e w2 ⟨rfl, b2⟩
   have bb := Hhb.out.trans (b2.mono Hhb.out.size)
   clear c0 c1 c2 c3 c4 c5 c6 c7 c8
   have ⟨Hb2, Hbb⟩ := hid2 b2 bb; clear b2 bb
   cases X with
   | true =>
    go_wp2_with fail
    go_roundw
    case rel => exact ⟨k + 1, by omega, by go_num, by rw [HhRk.out, Bool.true_and], Hbb.out⟩
    case measure => simp [intOf]; omega
   | false =>
    go_wp2_with fail
    go_ret
    exact ⟨ret_bool (by rw [HhRk.out]; simp), Hbb.out⟩
  ·have : l.drop k = [] := List.drop_eq_nil_of_le (by rw [Hhln.out]; omega)
   rw [this] at hRk
   have g1 : ¬ (k : Int) < (n : Int) := by omega
   have ⟨HhRk, Hhb, Hthis⟩ := hid3 hRk hb this; clear hRk hb this
   go_wp2_with fail
   go_ret
   exact ⟨ret_bool (by rw [HhRk.out]; simp [allV]), Hhb.out⟩
theorem rvkD_drop {l : List Crd} {k : Nat} {b : Crd} (h : l[k]? = some b) (i : Int) : rvkD (l.drop k) i = (((b.k == 3) && (b.l == i)) || rvkD (l.drop (k + 1)) i) := by
 obtain ⟨hk, rfl⟩ := List.getElem?_eq_some_iff.1 h
 rw [List.drop_eq_getElem_cons hk, beq_dec, beq_dec]; rfl
theorem newD_drop {l : List Crd} {k : Nat} {b : Crd} (h : l[k]? = some b) (i : Int) : newD (l.drop k) i = (((b.k == 1) && decide (i < b.n)) || newD (l.drop (k + 1)) i) := by
 obtain ⟨hk, rfl⟩ := List.getElem?_eq_some_iff.1 h
 rw [List.drop_eq_getElem_cons hk, beq_dec]; rfl
set_option maxHeartbeats 4000000 in
theorem rrevoked_any (id : Int) (A : Option Addr) (cp n : Nat) (l : List Crd) (hln : l.length = n) (hn : n ≤ 9223372036854775807) (w : World) (hl : Cards w A l) :
  Calls Tryz.prog 43 #[.int .i64 id, .slice A n cp] w fun e w' => e = .returned (.bool (rvkD l id)) ∧ Below w.heap.size w w' := by
 generalize hR : rvkD l id = R
 have h0 : R = rvkD (l.drop 0) id := by rw [List.drop_zero]; exact hR.symm
 have ⟨Hhl, Hhln, HhR, Hh0⟩ := hid4 hl hln hR h0; clear hl hln hR h0
 go_enter Tryz.func43, Tryz.ntmps43
 go_wp2_with fail
 go_loopw [5] (fun i wr => ∃ (k : Nat), k ≤ n ∧ i = .int .i64 k ∧ R = rvkD (l.drop k) id ∧ Below w.heap.size w wr) (fun i _ => n - (intOf i).toNat)
 case atStart => exact ⟨0, by omega, rfl, Hh0.out, Below.refl _ _⟩
 case round =>
  obtain ⟨k, hk, rfl, hRk, hb⟩ := hrel
  by_cases hlt : k < n
  ·obtain ⟨c, hc⟩ : ∃ c, l[k]? = some c := ⟨_, List.getElem?_eq_getElem (by rw [Hhln.out]; exact hlt)⟩
   obtain ⟨b, off, rfl, hbl, hf, c0, c1, c2, c3, c4, c5, c6, c7, c8⟩ := (Hhl.out.below hb).at hc
   rw [rvkD_drop hc] at hRk
   obtain ⟨x1, h1⟩ : ∃ x, (c.k == 3) = x := ⟨_, rfl⟩
   obtain ⟨x2, h2⟩ : ∃ x, (c.l == id) = x := ⟨_, rfl⟩
   rw [h1, h2] at hRk
   have g1 : (k : Int) < (n : Int) := by omega
   have g0 : (0 : Int) ≤ (k : Int) := by omega
   have ⟨HhRk, Hhf, Hhc, Hhb⟩ := hid4 hRk hf hc hb; clear hRk hf hc hb
   cases x1
   ·go_wp2_with fail
    go_roundw
    case rel => exact ⟨k + 1, by omega, by go_num, by rw [HhRk.out]; simp, Hhb.out⟩
    case measure => simp [intOf]; omega
   ·cases x2
    ·go_wp2_with fail
     go_roundw
     case rel => exact ⟨k + 1, by omega, by go_num, by rw [HhRk.out]; simp, Hhb.out⟩
     case measure => simp [intOf]; omega
    ·go_wp2_with fail
     go_ret
     exact ⟨ret_bool (by rw [HhRk.out]; simp), Hhb.out⟩
  ·have : l.drop k = [] := List.drop_eq_nil_of_le (by rw [Hhln.out]; omega)
   rw [this] at hRk
   have g1 : ¬ (k : Int) < (n : Int) := by omega
   have ⟨HhRk, Hhb, Hthis⟩ := hid3 hRk hb this; clear hRk hb this
   go_wp2_with fail
   go_ret
   exact ⟨ret_bool (by rw [HhRk.out]; rfl), Hhb.out⟩
set_option maxHeartbeats 4000000 in
theorem rnewer_any (id : Int) (A : Option Addr) (cp n : Nat) (l : List Crd) (hln : l.length = n) (hn : n ≤ 9223372036854775807) (w : World) (hl : Cards w A l) :
  Calls Tryz.prog 44 #[.int .i64 id, .slice A n cp] w fun e w' => e = .returned (.bool (newD l id)) ∧ Below w.heap.size w w' := by
 generalize hR : newD l id = R
 have h0 : R = newD (l.drop 0) id := by rw [List.drop_zero]; exact hR.symm
 have ⟨Hhl, Hhln, HhR, Hh0⟩ := hid4 hl hln hR h0; clear hl hln hR h0
 go_enter Tryz.func44, Tryz.ntmps44
 go_wp2_with fail
 go_loopw [5] (fun i wr => ∃ (k : Nat), k ≤ n ∧ i = .int .i64 k ∧ R = newD (l.drop k) id ∧ Below w.heap.size w wr) (fun i _ => n - (intOf i).toNat)
 case atStart => exact ⟨0, by omega, rfl, Hh0.out, Below.refl _ _⟩
 case round =>
  obtain ⟨k, hk, rfl, hRk, hb⟩ := hrel
  by_cases hlt : k < n
  ·obtain ⟨c, hc⟩ : ∃ c, l[k]? = some c := ⟨_, List.getElem?_eq_getElem (by rw [Hhln.out]; exact hlt)⟩
   obtain ⟨b, off, rfl, hbl, hf, c0, c1, c2, c3, c4, c5, c6, c7, c8⟩ := (Hhl.out.below hb).at hc
   rw [newD_drop hc] at hRk
   obtain ⟨x1, h1⟩ : ∃ x, (c.k == 1) = x := ⟨_, rfl⟩
   obtain ⟨x2, h2⟩ : ∃ x, decide (id < c.n) = x := ⟨_, rfl⟩
   rw [h1, h2] at hRk
   have g1 : (k : Int) < (n : Int) := by omega
   have g0 : (0 : Int) ≤ (k : Int) := by omega
   have ⟨HhRk, Hhf, Hhc, Hhb⟩ := hid4 hRk hf hc hb; clear hRk hf hc hb
   cases x1
   ·go_wp2_with fail
    go_roundw
    case rel => exact ⟨k + 1, by omega, by go_num, by rw [HhRk.out]; simp, Hhb.out⟩
    case measure => simp [intOf]; omega
   ·cases x2
    ·go_wp2_with fail
     go_roundw
     case rel => exact ⟨k + 1, by omega, by go_num, by rw [HhRk.out]; simp, Hhb.out⟩
     case measure => simp [intOf]; omega
    ·go_wp2_with fail
     go_ret
     exact ⟨ret_bool (by rw [HhRk.out]; simp), Hhb.out⟩
  ·have : l.drop k = [] := List.drop_eq_nil_of_le (by rw [Hhln.out]; omega)
   rw [this] at hRk
   have g1 : ¬ (k : Int) < (n : Int) := by omega
   have ⟨HhRk, Hhb, Hthis⟩ := hid3 hRk hb this; clear hRk hb this
   go_wp2_with fail
   go_ret
   exact ⟨ret_bool (by rw [HhRk.out]; rfl), Hhb.out⟩
theorem mayW_is (bs : List Crd) (c : Crd) (key t : Int) : mayW bs c key t = (!((c.k == 3) || rvkD bs c.i || ((c.k == 1) && newD bs c.n)) && (chkB c key && decide (c.f ≤ t) && decide (t < c.u))) := by
 rw [may_is, mayD, inD, beq_dec, beq_dec]
 generalize decide (c.k = 3) = x1
 generalize rvkD bs c.i = x2
 generalize (decide (c.k = 1) && newD bs c.n) = x3
 generalize decide (c.f ≤ t) = x4
 generalize decide (t < c.u) = x5
 generalize chkB c key = x6
 revert x1 x2 x3 x4 x5 x6
 decide
set_option maxHeartbeats 16000000 in
theorem rmay38_any (c : Crd) (key : Int) (A : Option Addr) (cp n : Nat) (bs : List Crd) (t : Int) (w : World) (hc : CFit c) (hln : bs.length = n) (hn : n ≤ 9223372036854775807) (hl : Cards w A bs) :
  Calls Tryz.prog 14 #[.agg c.cells.toArray, .int .i64 key, .slice A n cp, .int .i64 t] w fun e w' => e = .returned (.tuple #[.bool (mayR bs c key t), .int .i64 (mayE bs c key t)]) ∧ Below w.heap.size w w' := by
 obtain ⟨w0, hw0⟩ : ∃ W, w.alloc (.cells c.cells.toArray 28) = W := ⟨_, rfl⟩
 have bb0 : Below w.heap.size w w0 := by rw [← hw0]; exact (Below.refl _ _).alloc (Nat.le_refl _) _
 have k0 : Blk w0 w.heap.size c.cells.toArray := by rw [← hw0]; exact blk_new rfl
 have q1 := fun W => rcvalid_any c hc W
 have q2 := fun W => (rmember_any key W).mono belowPost
 have q3 := fun W (h : Below w.heap.size w W) => rccards_any A cp n bs hln hn W (hl.below h)
 have q4 := fun W => (rTime_any t W).mono belowPost
 have q5 := fun W => rccheck_any c key hc W
 have q6 := fun W (h : Below w.heap.size w W) => rrevoked_any c.i A cp n bs hln hn W (hl.below h)
 have q7 := fun W (h : Below w.heap.size w W) => rnewer_any c.n A cp n bs hln hn W (hl.below h)
 have e3 : mayV bs c key t = (cvB c && memZ key && cdsB bs && timeB t) := rfl
 have e4 := mayW_is bs c key t
 unfold mayR mayE
 rw [e3, e4]
 generalize cvB c = V1 at *
 generalize memZ key = V2 at *
 generalize cdsB bs = V3 at *
 generalize timeB t = V4 at *
 generalize rvkD bs c.i = V5 at *
 generalize newD bs c.n = V7 at *
 generalize chkB c key = V6 at *
 generalize chkE c key = E6 at *
 obtain ⟨x1, h1⟩ : ∃ x, (c.k == 3) = x := ⟨_, rfl⟩
 obtain ⟨x4, h4⟩ : ∃ x, (c.k == 1) = x := ⟨_, rfl⟩
 obtain ⟨x2, h2⟩ : ∃ x, decide (c.f ≤ t) = x := ⟨_, rfl⟩
 obtain ⟨x3, h3⟩ : ∃ x, decide (t < c.u) = x := ⟨_, rfl⟩
 rw [h1, h2, h3, h4]
 clear e3 e4
 unfold Crd.cells at k0 hw0 q1 q5 ⊢
 have ⟨Hhw0, Hbb0, Hk0, Hq1, Hq2, Hq3, Hq4, Hq5⟩ := hid8 hw0 bb0 k0 q1 q2 q3 q4 q5; clear hw0 bb0 k0 q1 q2 q3 q4 q5; have ⟨Hq6, Hq7, Hhc, Hhln, Hhl⟩ := hid5 q6 q7 hc hln hl; clear q6 q7 hc hln hl
 go_enter Tryz.func14, Tryz.ntmps14
 go_upto_region 1 with (fail)
 rw [Hhw0.out]
 obtain ⟨y0, y1, y2, y3, y4, y5, y6, y7, y8⟩ := at9_of Hk0.out
 have ly := (Hk0.out 0 _ rfl).lt
 go_wp2_with fail
 (with_reducible refine (Hq1.out _).mono ?_)
 rintro e w1 ⟨rfl, b1⟩
 have c1 : Below w0.heap.size w0 w1 := Below.trans belt (b1.mono omh)
 have s1 := c1.size
 have bb1 := Hbb0.out.trans (c1.mono Hbb0.out.size)
 have k1 := Hk0.out.below c1
 have ⟨Hb1, Hc1, Hbb1, Hk1⟩ := hid4 b1 c1 bb1 k1; clear b1 c1 bb1 k1
 go_wp2_with fail
 (with_reducible refine (Hq2.out _).mono ?_)
 rintro e w2 ⟨rfl, b2⟩
 have c2 : Below w1.heap.size w1 w2 := Below.trans belt (b2.mono omh)
 have s2 := c2.size
 have bb2 := Hbb1.out.trans (c2.mono Hbb1.out.size)
 have k2 := Hk1.out.below c2
 have ⟨Hb2, Hc2, Hbb2, Hk2⟩ := hid4 b2 c2 bb2 k2; clear b2 c2 bb2 k2
 go_wp2_with fail
 (with_reducible refine (Hq3.out _ ?_).mono ?_)
 ·exact Hbb2.out.trans ((show Below w2.heap.size w2 _ from belt).mono Hbb2.out.size)
 rintro e w3 ⟨rfl, b3⟩
 have c3 : Below w2.heap.size w2 w3 := Below.trans belt (b3.mono omh)
 have s3 := c3.size
 have bb3 := Hbb2.out.trans (c3.mono Hbb2.out.size)
 have k3 := Hk2.out.below c3
 have ⟨Hb3, Hc3, Hbb3, Hk3⟩ := hid4 b3 c3 bb3 k3; clear b3 c3 bb3 k3
 go_wp2_with fail
 (with_reducible refine (Hq4.out _).mono ?_)
 rintro e w4 ⟨rfl, b4⟩
 have c4 : Below w3.heap.size w3 w4 := Below.trans belt (b4.mono omh)
 have s4 := c4.size
 have bb4 := Hbb3.out.trans (c4.mono Hbb3.out.size)
 have k4 := Hk3.out.below c4
 have ⟨Hb4, Hc4, Hbb4, Hk4⟩ := hid4 b4 c4 bb4 k4; clear b4 c4 bb4 k4
 clear ly y0 y1 y2 y3 y4 y5 y6 y7 y8
 by_cases hV : (V1 && V2 && V3 && V4) = true
 rotate_left
 ·have hV2 : (V1 && V2 && V3 && V4) = false := by simpa using hV
  clear hV
  cases V1
  ·go_wp2_with fail
   go_ret2
   exact ⟨by simp, Hbb4.out⟩
  ·cases V2
   ·go_wp2_with fail
    go_ret2
    exact ⟨by simp, Hbb4.out⟩
   ·cases V3
    ·go_wp2_with fail
     go_ret2
     exact ⟨by simp, Hbb4.out⟩
    ·have : V4 = false := by simpa using hV2
     subst this
     go_wp2_with fail
     go_ret2
     exact ⟨by simp, Hbb4.out⟩
 ·simp only [Bool.and_eq_true] at hV
  obtain ⟨⟨⟨rfl, rfl⟩, rfl⟩, rfl⟩ := hV
  obtain ⟨y0, y1, y2, y3, y4, y5, y6, y7, y8⟩ := at9_of Hk4.out
  have ly := (Hk4.out 0 _ rfl).lt
  go_wp2_with fail
  (with_reducible refine (Hq5.out _).mono ?_)
  rintro e w5 ⟨rfl, b5⟩
  have c5 : Below w4.heap.size w4 w5 := Below.trans belt (b5.mono omh)
  have s5 := c5.size
  have bb5 := Hbb4.out.trans (c5.mono Hbb4.out.size)
  have k5 := Hk4.out.below c5
  have ⟨Hb5, Hc5, Hbb5, Hk5⟩ := hid4 b5 c5 bb5 k5; clear b5 c5 bb5 k5
  clear ly y0 y1 y2 y3 y4 y5 y6 y7 y8
  obtain ⟨y0, y1, y2, y3, y4, y5, y6, y7, y8⟩ := at9_of Hk5.out
  have ly := (Hk5.out 0 _ rfl).lt
  go_wp2_with fail
  (with_reducible refine (Hq6.out _ ?_).mono ?_)
  ·exact Hbb5.out.trans ((show Below w5.heap.size w5 _ from belt).mono Hbb5.out.size)
  rintro e w6 ⟨rfl, b6⟩
  have c6 : Below w5.heap.size w5 w6 := Below.trans belt (b6.mono omh)
  have s6 := c6.size
  have bb6 := Hbb5.out.trans (c6.mono Hbb5.out.size)
  have k6 := Hk5.out.below c6
  have ⟨Hb6, Hc6, Hbb6, Hk6⟩ := hid4 b6 c6 bb6 k6; clear b6 c6 bb6 k6
  clear ly y0 y1 y2 y3 y4 y5 y6 y7 y8
  obtain ⟨y0, y1, y2, y3, y4, y5, y6, y7, y8⟩ := at9_of Hk6.out
  have ly := (Hk6.out 0 _ rfl).lt
  go_wp2_with fail
  (with_reducible refine (Hq7.out _ ?_).mono ?_)
  ·exact Hbb6.out.trans ((show Below w6.heap.size w6 _ from belt).mono Hbb6.out.size)
  rintro e w7 ⟨rfl, b7⟩
  have c7 : Below w6.heap.size w6 w7 := Below.trans belt (b7.mono omh)
  have s7 := c7.size
  have bb7 := Hbb6.out.trans (c7.mono Hbb6.out.size)
  have k7 := Hk6.out.below c7
  have ⟨Hb7, Hc7, Hbb7, Hk7⟩ := hid4 b7 c7 bb7 k7; clear b7 c7 bb7 k7
  clear ly y0 y1 y2 y3 y4 y5 y6 y7 y8
  obtain ⟨y0, y1, y2, y3, y4, y5, y6, y7, y8⟩ := at9_of Hk7.out
  have ly := (Hk7.out 0 _ rfl).lt
  cases x1
  ·cases V5
   ·cases x4
    ·cases V6
     ·go_wp2_with fail
      go_ret2
      exact ⟨by simp, Hbb7.out⟩
     ·cases x2
      all_goals
       go_wp2_with fail
       go_ret2
       exact ⟨by simp, Hbb7.out⟩
    ·cases V7
     ·cases V6
      ·go_wp2_with fail
       go_ret2
       exact ⟨by simp, Hbb7.out⟩
      ·cases x2
       all_goals
        go_wp2_with fail
        go_ret2
        exact ⟨by simp, Hbb7.out⟩
     ·go_wp2_with fail
      go_ret2
      exact ⟨by simp, Hbb7.out⟩
   ·go_wp2_with fail
    go_ret2
    exact ⟨by simp, Hbb7.out⟩
  ·go_wp2_with fail
   go_ret2
   exact ⟨by simp, Hbb7.out⟩
end Go.Proofs.YtclgncaghiinhaaGreatDoor

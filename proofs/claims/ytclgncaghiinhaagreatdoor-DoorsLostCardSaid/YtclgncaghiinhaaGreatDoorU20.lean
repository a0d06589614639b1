/- Contracts of package slot: Write, where its lists lie, one case of which slot is the best. -/
import Derived.Test.YtclgncaghiinhaaGreatDoorU17
set_option linter.unusedSimpArgs false
set_option linter.unusedVariables false
set_option maxRecDepth 100000
namespace Go.Proofs.YtclgncaghiinhaaGreatDoor
open Go.RowKit
set_option maxHeartbeats 3000000 in
theorem write2_b1 (x y : Slt) (c at_ : Int) (A : Option Addr) (n p : Nat) (B : Option Addr) (m q : Nat) (D : Option Addr) (k r : Nat) (l : List Int) (hlk : l.length = k) (w : World) (hx : SlotIs w A n x) (hy : SlotIs w B m y) (hc : -9223372036854775808 ≤ c ∧ c ≤ 9223372036854775807) (hl : IntsAt w D .i64 l) (hk : k ≤ 500) (hf : Fit l) (ht : Tab w)
  (hF : fldB 0 c l = true) (hE : bestB x y = true) (hI : bestI x y = 1) (h3 : at_ = 0 ∨ at_ = 1 ∨ at_ = 2 ∨ at_ = 3) (hS : y.s ≠ 1000000000) (hS0 : 0 ≤ y.s ∧ y.s ≤ 1000000000) (hw : wrE x y c l at_ = 0) :
  Calls Tryz.prog 106 #[.agg #[.int .i64 x.s, .int .i64 x.c, .slice A n p, .int .u64 x.u, .int .i64 y.s, .int .i64 y.c, .slice B m q, .int .u64 y.u], .int .i64 c, .slice D k r, .int .i64 at_] w (SlotsErr2 A x.l B y.l (wr0 x y c l at_) (wr1 x y c l at_) 0 w) := by
 obtain ⟨w1, hw1⟩ : ∃ w1, (w.alloc (.cells #[.int .i64 x.s, .int .i64 x.c, .slice A n p, .int .u64 x.u, .int .i64 y.s, .int .i64 y.c, .slice B m q, .int .u64 y.u] 46)).alloc (.cells #[.int .i64 0, .int .i64 0, .slice none 0 0, .int .u64 0, .int .i64 0, .int .i64 0, .slice none 0 0, .int .u64 0] 46) = w1 := ⟨_, rfl⟩
 have b1 : Below w.heap.size w w1 := by rw [← hw1]; exact ((Below.refl _ _).alloc (Nat.le_refl _) _).alloc (by simp) _
 have s1 : w1.heap.size = w.heap.size + 2 := by rw [← hw1]; simp
 have q1 := make_ok 0 c D r k l hlk w1 (by omega) hc (hl.below b1) hk hf (ht.below b1) hF
 have q2 := fun W => swithin_any at_ 0 3 W
 have hat : wB at_ 0 3 = true := wB_iff.2 (by omega)
 rw [hat] at q2
 have q3 := fun W (h : SlotIs W A n x) (h2 : SlotIs W B m y) h3 => best_any x y A n p B m q W h h2 h3
 rw [hE, hI] at q3
 have q4 := fun W X cx (h : IntsAt W X .i64 l) h2 => summed_any (y.s + 1) c (sumS 0 c l) X cx k l hlk W (by omega) hc h (by omega) hf h2
 have mad : Slt.made 0 c l = ⟨0, c, l, sumS 0 c l⟩ := rfl
 have e0 := (wr_eq0 hw).1
 have e1 := (wr_eq0 hw).2
 have ei : into0 x y = true := by simp [into0, hE, hI]
 have et : topS x y = y.s := by simp [topS, hE, hI]
 have eS : ∀ a, wrS x y c l a = ⟨(y.s + 1), c, l, if a = 1 then (sumS (y.s + 1) c l + 1) % 18446744073709551616 else sumS (y.s + 1) c l⟩ := fun a => by rw [wrS, et]
 simp only [ei] at e0 e1
 have u1 := sumS_in (y.s + 1) c l
 have u10 := u1.1
 have u11 := u1.2
 generalize sumS (y.s + 1) c l = U at *
 unfold SlotErr at q1
 rw [mad] at q1
 dsimp only at q1
 generalize sumS 0 c l = U0 at *
 generalize fldB (y.s + 1) c l = FF at *
 rw [hlk] at q1
 rw [← hw1] at q1
 generalize wr0 x y c l at_ = Z0 at *
 generalize wr1 x y c l at_ = Z1 at *
 have xs := hx.s; have xs0 := xs.1; have xs1 := xs.2
 have ys := hy.s; have ys0 := ys.1; have ys1 := ys.2
 have hS1 : (y.s == 1000000000) = false := by rw [beq_eq_false_iff_ne]; exact hS
 have hS2 := hS0.1
 have hS3 := hS0.2
 have ⟨Hh3, Hhx, Hhy, Hhc, Hhl, Hhf, Hht, HhF⟩ := hid8 h3 hx hy hc hl hf ht hF; clear h3 hx hy hc hl hf ht hF; have ⟨HhE, HhI, HhS, HhS0, Hb1, Hs1, Hhw1, Hq1⟩ := hid8 hE hI hS hS0 b1 s1 hw1 q1; clear hE hI hS hS0 b1 s1 hw1 q1; have ⟨Hq2, Hq3, Hq4, Hhat, Hmad, He0, He1, Hei⟩ := hid8 q2 q3 q4 hat mad e0 e1 ei; clear q2 q3 q4 hat mad e0 e1 ei; have ⟨Het, HeS, Hhlk, Hhw, Hu1, Hxs, Hys⟩ := hid7 et eS hlk hw u1 xs ys; clear et eS hlk hw u1 xs ys
 go_enter Tryz.func106, Tryz.ntmps106
 go_wp2_with fail
 refine (Hq1.out).mono ?_; rintro e w2 ⟨X, cx, rfl, ho, hbw2⟩
 have hsw2 := hbw2.size; (try simp only [World.size_alloc, World.heap_drewN, World.size_setCell, heap_drew] at hsw2)
 have gw2 : Below w.heap.size w w2 := belt
 obtain ⟨kw2x0x0, fw2x0x0, kw2x0x1, fw2x0x1, kw2x0x2, fw2x0x2, kw2x0x3, fw2x0x3, kw2x0x4, fw2x0x4, kw2x0x5, fw2x0x5, kw2x0x6, fw2x0x6, kw2x0x7, fw2x0x7⟩ := kf8 hbw2 w.heap.size
 have zw2x0 : w.heap.size < w2.heap.size := by omega
 obtain ⟨kw2x1x0, fw2x1x0, kw2x1x1, fw2x1x1, kw2x1x2, fw2x1x2, kw2x1x3, fw2x1x3, kw2x1x4, fw2x1x4, kw2x1x5, fw2x1x5, kw2x1x6, fw2x1x6, kw2x1x7, fw2x1x7⟩ := kf8 hbw2 (w.heap.size + 1)
 have zw2x1 : w.heap.size + 1 < w2.heap.size := by omega
 have Hhbw2 := Lib.hid hbw2; clear hbw2
 rw [Hhw1.out] at Hhbw2
 have hsz2 := Hhbw2.out.size
 rw [Hs1.out] at hsz2
 have hne1 : w.heap.size ≠ w2.heap.size := by omega
 have hne2 : w2.heap.size ≠ w.heap.size := by omega
 have hne3 : w.heap.size + 1 ≠ w2.heap.size := by omega
 have hne4 : w2.heap.size ≠ w.heap.size + 1 := by omega
 have sg := seg_own ho
 rw [Hhw1.out] at sg
 have ⟨Hsg, Hho⟩ := hid2 sg ho; clear sg ho
 go_wp2_with fail
 refine (Hq2.out _).mono ?_
 rintro e w_ ⟨rfl, rfl⟩
 go_wp2_with fail
 have gq : Below w.heap.size w (w2.alloc (.cells #[.int .i64 0, .int .i64 c, .slice X k cx, .int .u64 U0] 45)) := gw2.alloc gw2.size _
 have q3 := Hq3.out _ (Hhx.out.below gq) (Hhy.out.below gq) (Hht.out.below gq)
 have ⟨Hgq, Hq3⟩ := hid2 gq q3; clear gq q3
 refine (Hq3.out).mono ?_; rintro e w3 ⟨rfl, hbw3⟩
 have hsw3 := hbw3.size; (try simp only [World.size_alloc, World.heap_drewN, World.size_setCell, heap_drew] at hsw3)
 have gw3 : Below w.heap.size w w3 := belt
 obtain ⟨kw3x0x0, fw3x0x0, kw3x0x1, fw3x0x1, kw3x0x2, fw3x0x2, kw3x0x3, fw3x0x3, kw3x0x4, fw3x0x4, kw3x0x5, fw3x0x5, kw3x0x6, fw3x0x6, kw3x0x7, fw3x0x7⟩ := kf8 hbw3 w.heap.size
 have zw3x0 : w.heap.size < w3.heap.size := by omega
 obtain ⟨kw3x1x0, fw3x1x0, kw3x1x1, fw3x1x1, kw3x1x2, fw3x1x2, kw3x1x3, fw3x1x3, kw3x1x4, fw3x1x4, kw3x1x5, fw3x1x5, kw3x1x6, fw3x1x6, kw3x1x7, fw3x1x7⟩ := kf8 hbw3 (w.heap.size + 1)
 have zw3x1 : w.heap.size + 1 < w3.heap.size := by omega
 obtain ⟨kw3x2x0, fw3x2x0, kw3x2x1, fw3x2x1, kw3x2x2, fw3x2x2, kw3x2x3, fw3x2x3⟩ := kf4 hbw3 w2.heap.size
 have zw3x2 : w2.heap.size < w3.heap.size := by omega
 have Hhbw3 := Lib.hid hbw3; clear hbw3
 clear gw2 kw2x0x0 fw2x0x0 kw2x0x1 fw2x0x1 kw2x0x2 fw2x0x2 kw2x0x3 fw2x0x3 kw2x0x4 fw2x0x4 kw2x0x5 fw2x0x5 kw2x0x6 fw2x0x6 kw2x0x7 fw2x0x7 kw2x1x0 fw2x1x0 kw2x1x1 fw2x1x1 kw2x1x2 fw2x1x2 kw2x1x3 fw2x1x3 kw2x1x4 fw2x1x4 kw2x1x5 fw2x1x5 kw2x1x6 fw2x1x6 kw2x1x7 fw2x1x7
 have sg3 := (Hsg.out.alloc (.cells #[.int .i64 0, .int .i64 c, .slice X k cx, .int .u64 U0] 45)).below Hhbw3.out
 have Hsg3 := Lib.hid sg3; clear sg3
 clear Hhbw2 Hhbw3
 go_wp2_with fail
 refine wp_region_held_drew (S := (fun W => W.cell? ⟨w.heap.size, 4, none⟩ = some (.int .i64 y.s))) (by kernel_rfl) ?_ (fun hHeld => ?_)
 ·(try dsimp only); go_keep
 refine tq 0 (some 35) ?_
 (try simp only [apz])
 refine tq 1 (some 36) ?_
 (try simp only [apz])
 refine tq 2 (some 37) ?_
 (try simp only [apz])
 refine tq 3 (some 38) ?_
 (try simp only [apz])
 refine tq 4 (some 39) ?_
 (try simp only [apz])
 refine tq 5 (some 40) ?_
 (try simp only [apz])
 refine tq 6 (some 12) ?_
 (try simp only [apz])
 refine tq 7 (some 41) ?_
 (try simp only [apz])
 refine wpAnyH_ready (rs := [8]) (by kernel_rfl) (by simp) ?_
 refine AllReadyH.cons rfl (fun K hK => ?_) AllReadyH.nil
 go_simp
 refine hK.out _ _ ?_ (fun hHeld => ?_)
 ·(try dsimp only); go_keep
 clear hK K
 (try simp only [apz])
 refine wpAnyH_done (by kernel_rfl) ?_ _
 go_wp2_with fail
 have gq : Below w.heap.size w (((w3.setCell ⟨w2.heap.size, 0, none⟩ (.int .i64 y.s)).setCell ⟨w2.heap.size, 0, none⟩ (.int .i64 (y.s + 1))).drew) := ((gw3.setCell (by simp; omega) _).setCell (by simp; omega) _).drew
 have sq := ((Hsg3.out.set (p := ⟨w2.heap.size, 0, none⟩) (.inr (Nat.le_refl _)) (.int .i64 y.s)).set (p := ⟨w2.heap.size, 0, none⟩) (.inr (Nat.le_refl _)) (.int .i64 (y.s + 1))).drew
 have q4 := Hq4.out _ X cx sq.ints (Hht.out.below gq)
 have ⟨Hgq, Hsq, Hq4⟩ := hid3 gq sq q4; clear gq sq q4
 refine (Hq4.out).mono ?_; rintro e w4 ⟨rfl, hbw4⟩
 have hsw4 := hbw4.size; (try simp only [World.size_alloc, World.heap_drewN, World.size_setCell, heap_drew] at hsw4)
 have gw4 : Below w.heap.size w w4 := belt
 obtain ⟨kw4x0x0, fw4x0x0, kw4x0x1, fw4x0x1, kw4x0x2, fw4x0x2, kw4x0x3, fw4x0x3, kw4x0x4, fw4x0x4, kw4x0x5, fw4x0x5, kw4x0x6, fw4x0x6, kw4x0x7, fw4x0x7⟩ := kf8 hbw4 w.heap.size
 have zw4x0 : w.heap.size < w4.heap.size := by omega
 obtain ⟨kw4x1x0, fw4x1x0, kw4x1x1, fw4x1x1, kw4x1x2, fw4x1x2, kw4x1x3, fw4x1x3, kw4x1x4, fw4x1x4, kw4x1x5, fw4x1x5, kw4x1x6, fw4x1x6, kw4x1x7, fw4x1x7⟩ := kf8 hbw4 (w.heap.size + 1)
 have zw4x1 : w.heap.size + 1 < w4.heap.size := by omega
 obtain ⟨kw4x2x0, fw4x2x0, kw4x2x1, fw4x2x1, kw4x2x2, fw4x2x2, kw4x2x3, fw4x2x3⟩ := kf4 hbw4 w2.heap.size
 have zw4x2 : w2.heap.size < w4.heap.size := by omega
 have Hhbw4 := Lib.hid hbw4; clear hbw4
 clear gw3 kw3x0x0 fw3x0x0 kw3x0x1 fw3x0x1 kw3x0x2 fw3x0x2 kw3x0x3 fw3x0x3 kw3x0x4 fw3x0x4 kw3x0x5 fw3x0x5 kw3x0x6 fw3x0x6 kw3x0x7 fw3x0x7 kw3x1x0 fw3x1x0 kw3x1x1 fw3x1x1 kw3x1x2 fw3x1x2 kw3x1x3 fw3x1x3 kw3x1x4 fw3x1x4 kw3x1x5 fw3x1x5 kw3x1x6 fw3x1x6 kw3x1x7 fw3x1x7 kw3x2x0 fw3x2x0 kw3x2x1 fw3x2x1 kw3x2x2 fw3x2x2 kw3x2x3 fw3x2x3
 have sg4 := Hsq.out.below Hhbw4.out
 have Hsg4 := Lib.hid sg4; clear sg4
 clear Hhbw4
 go_upto_region 14 with (fail)
 obtain ⟨w5, hew5⟩ : ∃ W : World, (((w4.setCell ⟨w2.heap.size, 0, none⟩ (.int .i64 (y.s + 1))).setCell ⟨w2.heap.size, 1, none⟩ (.int .i64 c)).setCell ⟨w2.heap.size, 2, none⟩ (.slice X k cx)).setCell ⟨w2.heap.size, 3, none⟩ (.int .u64 U) = W := ⟨_, rfl⟩
 rw [hew5]
 have hsw5 := congrArg (fun W : World => W.heap.size) hew5
 simp only [World.size_alloc, World.heap_drewN, World.size_setCell, heap_drew] at hsw5
 have Hhew5 := Lib.hid hew5; clear hew5
 have gw5 : Below w.heap.size w w5 := by rw [← Hhew5.out]; exact belt
 obtain ⟨kw5x0x0, fw5x0x0, kw5x0x1, fw5x0x1, kw5x0x2, fw5x0x2, kw5x0x3, fw5x0x3, kw5x0x4, fw5x0x4, kw5x0x5, fw5x0x5, kw5x0x6, fw5x0x6, kw5x0x7, fw5x0x7⟩ := nf8 Hhew5.out w.heap.size
 have zw5x0 : w.heap.size < w5.heap.size := by omega
 obtain ⟨kw5x1x0, fw5x1x0, kw5x1x1, fw5x1x1, kw5x1x2, fw5x1x2, kw5x1x3, fw5x1x3, kw5x1x4, fw5x1x4, kw5x1x5, fw5x1x5, kw5x1x6, fw5x1x6, kw5x1x7, fw5x1x7⟩ := nf8 Hhew5.out (w.heap.size + 1)
 have zw5x1 : w.heap.size + 1 < w5.heap.size := by omega
 obtain ⟨kw5x2x0, fw5x2x0, kw5x2x1, fw5x2x1, kw5x2x2, fw5x2x2, kw5x2x3, fw5x2x3⟩ := nf4 Hhew5.out w2.heap.size
 have zw5x2 : w2.heap.size < w5.heap.size := by omega
 clear gw4 kw4x0x0 fw4x0x0 kw4x0x1 fw4x0x1 kw4x0x2 fw4x0x2 kw4x0x3 fw4x0x3 kw4x0x4 fw4x0x4 kw4x0x5 fw4x0x5 kw4x0x6 fw4x0x6 kw4x0x7 fw4x0x7 kw4x1x0 fw4x1x0 kw4x1x1 fw4x1x1 kw4x1x2 fw4x1x2 kw4x1x3 fw4x1x3 kw4x1x4 fw4x1x4 kw4x1x5 fw4x1x5 kw4x1x6 fw4x1x6 kw4x1x7 fw4x1x7 kw4x2x0 fw4x2x0 kw4x2x1 fw4x2x1 kw4x2x2 fw4x2x2 kw4x2x3 fw4x2x3
 have s1 := Hs1.out
 have sg5 : Seg w5 w1.heap.size w2.heap.size X l := by
  rw [← Hhew5.out]
  exact (((Hsg4.out.set (p := ⟨w2.heap.size, 0, none⟩) (.inr (Nat.le_refl _)) _).set (p := ⟨w2.heap.size, 1, none⟩) (.inr (Nat.le_refl _)) _).set (p := ⟨w2.heap.size, 2, none⟩) (.inr (Nat.le_refl _)) _).set (p := ⟨w2.heap.size, 3, none⟩) (.inr (Nat.le_refl _)) _
 rw [s1] at sg5
 clear s1
 have Hsg5 := Lib.hid sg5; clear sg5
 have h3 := Hh3.out
 clear Hh3
 rcases h3 with rfl | rfl | rfl | rfl
 ·go_wp2_with fail
  have hz0 : Z0 = x := by rw [He0.out]; simp
  have hz1 : Z1 = y := by rw [He1.out]; simp
  refine bodyPost_ret (v := .tuple #[.agg #[.int .i64 x.s, .int .i64 x.c, .slice A n p, .int .u64 x.u, .int .i64 y.s, .int .i64 y.c, .slice B m q, .int .u64 y.u], .int .i64 0]) (by simp [results, Tryz.results106, go_sem, *]) rfl ?_
  have sF := Hsg5.out
  generalize hFW : (World.setCell _ _ _) = F
  have gF : Below w.heap.size w F := by rw [← hFW]; exact belt
  have sF : Seg F (w.heap.size + 2) w2.heap.size X l := by
   rw [← hFW]
   repeat (refine Seg.set ?_ (by first | (left; simp; done) | (left; simp; omega) | (right; simp; done)) _)
   exact Hsg5.out
  rw [hz0, hz1]
  exact ⟨_, _, _, _, by (try dsimp only); rw [Hhx.out.len, Hhy.out.len], (prov_old (Hhx.out.ints.below gF)), (prov_old (Hhy.out.ints.below gF)), gF⟩
 ·go_wp2_with fail
  have hz0 : Z0 = ⟨(y.s + 1), c, l, (U + 1) % 18446744073709551616⟩ := by rw [He0.out, HeS.out]; simp
  have hz1 : Z1 = y := by rw [He1.out]; simp
  refine bodyPost_ret (v := .tuple #[.agg #[.int .i64 (y.s + 1), .int .i64 c, .slice X k cx, .int .u64 (IntKind.u64.wrap (U + 1)), .int .i64 y.s, .int .i64 y.c, .slice B m q, .int .u64 y.u], .int .i64 0]) (by simp [results, Tryz.results106, go_sem, *]) rfl ?_
  have sF := Hsg5.out
  generalize hFW : (World.setCell _ _ _) = F
  have gF : Below w.heap.size w F := by rw [← hFW]; exact belt
  have sF : Seg F (w.heap.size + 2) w2.heap.size X l := by
   rw [← hFW]
   repeat (refine Seg.set ?_ (by first | (left; simp; done) | (left; simp; omega) | (right; simp; done)) _)
   exact Hsg5.out
  rw [hz0, hz1]
  exact ⟨_, _, _, _, by (try dsimp only); rw [Hhlk.out, Hhy.out.len, IntKind.wrap_u64], (prov_new sF (by omega)), (prov_old (Hhy.out.ints.below gF)), gF⟩
 ·go_wp2_with fail
  have hz0 : Z0 = ⟨(y.s + 1), c, l, U⟩ := by rw [He0.out, HeS.out]; simp
  have hz1 : Z1 = y := by rw [He1.out]; simp
  refine bodyPost_ret (v := .tuple #[.agg #[.int .i64 (y.s + 1), .int .i64 c, .slice X k cx, .int .u64 U, .int .i64 y.s, .int .i64 y.c, .slice B m q, .int .u64 y.u], .int .i64 0]) (by simp [results, Tryz.results106, go_sem, *]) rfl ?_
  have sF := Hsg5.out
  generalize hFW : (World.setCell _ _ _) = F
  have gF : Below w.heap.size w F := by rw [← hFW]; exact belt
  have sF : Seg F (w.heap.size + 2) w2.heap.size X l := by
   rw [← hFW]
   repeat (refine Seg.set ?_ (by first | (left; simp; done) | (left; simp; omega) | (right; simp; done)) _)
   exact Hsg5.out
  rw [hz0, hz1]
  exact ⟨_, _, _, _, by (try dsimp only); rw [Hhlk.out, Hhy.out.len], (prov_new sF (by omega)), (prov_old (Hhy.out.ints.below gF)), gF⟩
 ·go_wp2_with fail
  have hz0 : Z0 = ⟨(y.s + 1), c, l, U⟩ := by rw [He0.out, HeS.out]; simp
  have hz1 : Z1 = y := by rw [He1.out]; simp
  refine bodyPost_ret (v := .tuple #[.agg #[.int .i64 (y.s + 1), .int .i64 c, .slice X k cx, .int .u64 U, .int .i64 y.s, .int .i64 y.c, .slice B m q, .int .u64 y.u], .int .i64 0]) (by simp [results, Tryz.results106, go_sem, *]) rfl ?_
  have sF := Hsg5.out
  generalize hFW : (World.setCell _ _ _) = F
  have gF : Below w.heap.size w F := by rw [← hFW]; exact belt
  have sF : Seg F (w.heap.size + 2) w2.heap.size X l := by
   rw [← hFW]
   repeat (refine Seg.set ?_ (by first | (left; simp; done) | (left; simp; omega) | (right; simp; done)) _)
   exact Hsg5.out
  rw [hz0, hz1]
  exact ⟨_, _, _, _, by (try dsimp only); rw [Hhlk.out, Hhy.out.len], (prov_new sF (by omega)), (prov_old (Hhy.out.ints.below gF)), gF⟩
end Go.Proofs.YtclgncaghiinhaaGreatDoor

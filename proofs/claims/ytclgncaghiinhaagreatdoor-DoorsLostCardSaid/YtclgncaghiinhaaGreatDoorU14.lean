/- Plain facts on signatures: what was signed is right; elements. -/
import Derived.Test.YtclgncaghiinhaaGreatDoorU10
import Derived.Test.YtclgncaghiinhaaGreatDoorU13
set_option linter.unusedSimpArgs false
set_option linter.unusedVariables false
set_option maxRecDepth 100000
namespace Go.Proofs.YtclgncaghiinhaaGreatDoor
open Go.RowKit
/-- the challenge of integers -/
def chN (l : List Int) : Nat := (nextB 14695981039346656037 l % 1073741789).toNat
theorem chN_eq (l : List Int) : nextB 14695981039346656037 l % 1073741789 = (chN l : Int) := by
 unfold chN; have := nextB_in 14695981039346656037 l; omega
theorem chN_lt (l : List Int) : chN l < QQ := by
 have : QQ = 1073741789 := rfl
 have := chN_eq l; omega
theorem fit_two {a b : Int} {l : List Int} (ha : -9223372036854775808 ≤ a ∧ a ≤ 9223372036854775807) (hb : -9223372036854775808 ≤ b ∧ b ≤ 9223372036854775807) (hl : Fit l) : Fit (a :: b :: l) := fit_cons ha (fit_cons hb hl)
set_option maxHeartbeats 1000000 in
theorem challenge_any (a p : Int) (A : Option Addr) (c n : Nat) (l : List Int) (hln : l.length = n) (w : World) (ha : -9223372036854775808 ≤ a ∧ a ≤ 9223372036854775807) (hp : -9223372036854775808 ≤ p ∧ p ≤ 9223372036854775807) (hl : IntsAt w A .i64 l) (hn : n ≤ 100000) (hf : Fit l) (ht : Tab w) :
  Calls Tryz.prog 95 #[.int .i64 a, .int .i64 p, .slice A n c] w fun e w' => e = .returned (.int .i64 (chN (a :: p :: l) : Nat)) ∧ Below w.heap.size w w' := by
 obtain ⟨i0, hi, hz0, hz1, hz2⟩ := info_parts infoI64
 have q1 := digSum_val none 0 0 [] rfl _ sum_nil w IntsAt.nil (by omega) (by simp)
 have e1 := chN_eq (a :: p :: l)
 have e2 := nextB_in 14695981039346656037 (a :: p :: l)
 have q2 := fun W X x (h1 : IntsAt W X .i64 (a :: p :: l)) h2 => digNext_val 14695981039346656037 X x (2 + n) (a :: p :: l) (by simp [hln]; omega) _ rfl W (by omega) h1 (by omega) (fit_two ha hp hf) h2
 generalize nextB 14695981039346656037 (a :: p :: l) = N at *
 generalize chN (a :: p :: l) = C at *
 have e3 := e2.1; have e4 := e2.2
 have bb0 := Below.refl w.heap.size w
 have l0 := hl; have t0 := ht
 have ⟨Hq1, Hq2, He1, He2, Hbb0, Hhl, Hht, Hhf⟩ := hid8 q1 q2 e1 e2 bb0 hl ht hf; clear q1 q2 e1 e2 bb0 hl ht hf; have ⟨Hha, Hhp, Hl0, Ht0, Hhln⟩ := hid5 ha hp l0 t0 hln; clear ha hp l0 t0 hln
 go_enter Tryz.func95, Tryz.ntmps95
 go_wp2_with fail
 refine Hq1.out.mono ?_
 rintro e w1 ⟨rfl, b1⟩
 have s1 := b1.size
 (try simp only [World.size_alloc, World.heap_drewN, World.size_setCell, heap_drew] at s1)
 have bb1 := Hbb0.out.trans (b1.mono (by first | omega | (simp; omega)))
 have l1 := Hl0.out.below b1
 have t1 := Ht0.out.below b1
 have ⟨Hb1, Hbb1, Hl1, Ht1⟩ := hid4 b1 bb1 l1 t1; clear b1 bb1 l1 t1
 go_wp2_with (at_builtin; refine wp_app_at _ rfl (.tmp 10) (.tmp 11) _ rfl w1.heap.size 3 i0 _ 8 Tryz.underlying42 hi hz0 hz1 hz2 rfl .i64 (some ⟨w1.heap.size, 0, none⟩) 2 2 [a, p] rfl rfl (own_lit (w := w1) [a, p] (Nat.le_refl _) (by simp) _ rfl) A c n l Hhln.out rfl (Hl1.out.alloc _) (by omega) (by omega) (by simp) ?_)
 intro X x w2 ho2 hg2 hB2
 have b2 : Below w1.heap.size w1 w2 := (own_lit (w := w1) (k := .i64) [a, p] (Nat.le_refl _) (by simp) _ rfl).grow ((Below.refl _ _).alloc (Nat.le_refl _) _) hg2
 have s2 := b2.size
 have bb2 := Hbb1.out.trans (b2.mono s1)
 have q3 := Hq2.out w2 X x ho2.ints (Ht1.out.below b2)
 have ⟨Hho2, Hhg2, HhB2, Hb2, Hbb2, Hq3⟩ := hid6 ho2 hg2 hB2 b2 bb2 q3; clear ho2 hg2 hB2 b2 bb2 q3
 go_wp2_with fail
 refine Hq3.out.mono ?_
 rintro e w3 ⟨rfl, b3⟩
 have s3 := b3.size
 (try simp only [World.size_alloc, World.heap_drewN, World.size_setCell, heap_drew] at s3)
 have bb3 := Hbb2.out.trans (b3.mono (by first | omega | (simp; omega)))
 have ⟨Hb3, Hbb3⟩ := hid2 b3 bb3; clear b3 bb3
 go_wp2_with fail
 go_ret
 exact ⟨ret_int (by rw [← He1.out]), Hbb3.out⟩
/-- the signature of a message -/
def sigE (s o : Nat) (l : List Int) : Nat := chN ((pw 4 o PP : Nat) :: (pw 4 s PP : Nat) :: l)
def sigS (s o : Nat) (l : List Int) : Nat := (o + sigE s o l * s) % QQ
theorem sigE_lt (s o : Nat) (l : List Int) : sigE s o l < QQ := chN_lt _
theorem sigS_lt (s o : Nat) (l : List Int) : sigS s o l < QQ := Nat.mod_lt _ (by decide)
theorem pw_fit (a x : Nat) : -9223372036854775808 ≤ ((pw a x PP : Nat) : Int) ∧ ((pw a x PP : Nat) : Int) ≤ 9223372036854775807 := by
 have h : pw a x PP < PP := pw_lt (by decide)
 have : PP = 2147483579 := rfl
 omega
theorem set_same {w : World} {b o : Nat} {x : Value} (h : w.cell? ⟨b, o, none⟩ = some x) (v : Value) : (w.setCell ⟨b, o, none⟩ v).cell? ⟨b, o, none⟩ = some v := World.cell?_setCell_same _ _ _ h
theorem set_other {w : World} {b o o' : Nat} {x : Value} (h : w.cell? ⟨b, o, none⟩ = some x) (hne : o' ≠ o) (v : Value) : (w.setCell ⟨b, o', none⟩ v).cell? ⟨b, o, none⟩ = some x := by
 rw [World.cell?_setCell_other _ _ _ _ (fun e => by injection e with _ e2; exact hne e2)]; exact h
set_option maxHeartbeats 1000000 in
theorem signature_any (s o : Nat) (A : Option Addr) (c n : Nat) (l : List Int) (hln : l.length = n) (w : World) (hs : s < QQ) (ho : o < QQ) (hl : IntsAt w A .i64 l) (hn : n ≤ 100000) (hf : Fit l) (ht : Tab w) :
  Calls Tryz.prog 82 #[.int .i64 s, .int .i64 o, .slice A n c] w fun e w' => e = .returned (.agg #[.int .i64 (sigE s o l : Nat), .int .i64 (sigS s o l : Nat)]) ∧ Below w.heap.size w w' := by
 have hq : QQ = 1073741789 := rfl
 have q1 := fun W => power_any 4 o W (by decide) (by omega)
 have q2 := fun W => power_any 4 s W (by decide) (by omega)
 have q3 := fun W (h1 : IntsAt W A .i64 l) h2 => challenge_any (pw 4 o PP : Nat) (pw 4 s PP : Nat) A c n l hln W (pw_fit _ _) (pw_fit _ _) h1 hn hf h2
 change ∀ W, IntsAt W A .i64 l → Tab W → Calls _ _ _ W (fun e w' => e = .returned (.int .i64 (sigE s o l : Nat)) ∧ _) at q3
 have hE := sigE_lt s o l
 have hS : ((sigS s o l : Nat) : Int) = ((o : Int) + (sigE s o l : Int) * s) % 1073741789 := by
  rw [sigS, Int.natCast_emod, Int.natCast_add, Int.natCast_mul]; rfl
 generalize sigE s o l = E at *
 generalize sigS s o l = S at *
 have hm : E * s ≤ 1073741789 * 1073741789 := Nat.mul_le_mul (by omega) (by omega)
 have hm1 : (E : Int) * (s : Int) ≤ 1152921504606846976 := by
  have : ((E * s : Nat) : Int) ≤ 1152921504606846976 := by omega
  rwa [Int.natCast_mul] at this
 have hm0 : 0 ≤ (E : Int) * (s : Int) := Int.mul_nonneg (by omega) (by omega)
 generalize ((pw 4 o PP : Nat) : Int) = P1 at *
 generalize ((pw 4 s PP : Nat) : Int) = P2 at *
 have ho1 : o ≤ 1073741789 := by omega
 clear hm
 have ⟨Hq1, Hq2, Hq3, Hhl, Hht, Hhf, Hhln, HhS⟩ := hid8 q1 q2 q3 hl ht hf hln hS; clear q1 q2 q3 hl ht hf hln hS; have ⟨HhE, Hhq⟩ := hid2 hE hq; clear hE hq
 go_enter Tryz.func82, Tryz.ntmps82
 go_wp2_with fail
 refine (Hq1.out _).mono ?_; rintro e w1 ⟨rfl, hbw1⟩
 have hsw1 := hbw1.size; (try simp only [World.size_alloc, World.heap_drewN, World.size_setCell, heap_drew] at hsw1)
 have gw1 : Below w.heap.size w w1 := belt
 obtain ⟨kw1x0x0, fw1x0x0, kw1x0x1, fw1x0x1⟩ := kf2 hbw1 w.heap.size
 have zw1x0 : w.heap.size < w1.heap.size := by omega
 have Hhbw1 := Lib.hid hbw1; clear hbw1
 go_wp2_with fail
 refine (Hq2.out _).mono ?_; rintro e w2 ⟨rfl, hbw2⟩
 have hsw2 := hbw2.size; (try simp only [World.size_alloc, World.heap_drewN, World.size_setCell, heap_drew] at hsw2)
 have gw2 : Below w.heap.size w w2 := belt
 obtain ⟨kw2x0x0, fw2x0x0, kw2x0x1, fw2x0x1⟩ := kf2 hbw2 w.heap.size
 have zw2x0 : w.heap.size < w2.heap.size := by omega
 have Hhbw2 := Lib.hid hbw2; clear hbw2
 clear gw1 kw1x0x0 fw1x0x0 kw1x0x1 fw1x0x1
 have q4 := Hq3.out w2 (Hhl.out.below gw2) (Hht.out.below gw2)
 have Hq4 := Lib.hid q4; clear q4
 go_wp2_with fail
 refine (Hq4.out).mono ?_; rintro e w3 ⟨rfl, hbw3⟩
 have hsw3 := hbw3.size; (try simp only [World.size_alloc, World.heap_drewN, World.size_setCell, heap_drew] at hsw3)
 have gw3 : Below w.heap.size w w3 := belt
 obtain ⟨kw3x0x0, fw3x0x0, kw3x0x1, fw3x0x1⟩ := kf2 hbw3 w.heap.size
 have zw3x0 : w.heap.size < w3.heap.size := by omega
 have Hhbw3 := Lib.hid hbw3; clear hbw3
 clear gw2 kw2x0x0 fw2x0x0 kw2x0x1 fw2x0x1
 go_wp2_with fail
 have c0 := set_same kw3x0x0 (.int .i64 E)
 have c1 := set_same (set_other kw3x0x1 (o' := 0) (by omega) (.int .i64 E)) (.int .i64 (((o : Int) + (E : Int) * s) % 1073741789))
 refine bodyPost_ret (v := .agg #[.int .i64 E, .int .i64 (((o : Int) + (E : Int) * s) % 1073741789)]) (by simp [results, Tryz.results82, go_sem, c0, c1]) rfl ?_
 rw [HhS.out]
 exact ⟨rfl, belt⟩
set_option maxHeartbeats 1000000 in
theorem sign_yes (s o : Nat) (A : Option Addr) (c n : Nat) (l : List Int) (hln : l.length = n) (w : World) (hs : wthB s 1 = true) (ho : wthB o 1 = true) (hl : IntsAt w A .i64 l) (hn : n ≤ 100000) (hf : Fit l) (ht : Tab w) :
  Calls Tryz.prog 48 #[.int .i64 s, .int .i64 o, .slice A n c] w fun e w' => e = .returned (.tuple #[.agg #[.int .i64 (sigE s o l : Nat), .int .i64 (sigS s o l : Nat)], .int .i64 0]) ∧ Below w.heap.size w w' := by
 have hq : QQ = 1073741789 := rfl
 have h1 := wthB_iff.1 hs
 have h2 := wthB_iff.1 ho
 have q1 := fun W => within_any s 1 W
 have q2 := fun W => within_any o 1 W
 rw [hs] at q1
 rw [ho] at q2
 have q3 := fun W (h1 : IntsAt W A .i64 l) h2 => signature_any s o A c n l hln W (by omega) (by omega) h1 hn hf h2
 generalize sigE s o l = E at *
 generalize sigS s o l = S at *
 have bw : Below w.heap.size w (w.alloc (.cells #[.int .i64 0, .int .i64 0] 26)) := (Below.refl _ _).alloc (Nat.le_refl _) _
 have q4 := q3 _ (hl.below bw) (ht.below bw)
 have ⟨Hq1, Hq2, Hq3, Hq4, Hhl, Hht, Hhf, Hhln⟩ := hid8 q1 q2 q3 q4 hl ht hf hln; clear q1 q2 q3 q4 hl ht hf hln; have ⟨Hhs, Hho, Hhq, Hh1, Hh2, Hbw⟩ := hid6 hs ho hq h1 h2 bw; clear hs ho hq h1 h2 bw
 go_enter Tryz.func48, Tryz.ntmps48
 go_wp2_with fail
 refine (Hq1.out _).mono ?_
 rintro e w_ ⟨rfl, rfl⟩
 go_wp2_with fail
 refine (Hq2.out _).mono ?_
 rintro e w_ ⟨rfl, rfl⟩
 go_wp2_with fail
 refine (Hq4.out).mono ?_; rintro e w3 ⟨rfl, hbw3⟩
 have hsw3 := hbw3.size; (try simp only [World.size_alloc, World.heap_drewN, World.size_setCell, heap_drew] at hsw3)
 have gw3 : Below w.heap.size w w3 := belt
 obtain ⟨kw3x0x0, fw3x0x0, kw3x0x1, fw3x0x1⟩ := kf2 hbw3 w.heap.size
 have zw3x0 : w.heap.size < w3.heap.size := by omega
 have Hhbw3 := Lib.hid hbw3; clear hbw3
 go_wp2_with fail
 have c0 := set_same kw3x0x0 (.int .i64 E)
 have c1 := set_same (set_other kw3x0x1 (o' := 0) (by omega) (.int .i64 E)) (.int .i64 S)
 refine bodyPost_ret (v := .tuple #[.agg #[.int .i64 E, .int .i64 S], .int .i64 0]) (by simp [results, Tryz.results48, go_sem, c0, c1]) rfl ?_
 exact ⟨rfl, belt⟩
set_option maxHeartbeats 1000000 in
theorem sign_no (s o : Int) (A : Option Addr) (c n : Nat) (w : World) (h : (wthB s 1 && wthB o 1) = false) :
  Calls Tryz.prog 48 #[.int .i64 s, .int .i64 o, .slice A n c] w fun e w' => e = .returned (.tuple #[.agg #[.int .i64 0, .int .i64 0], .int .i64 1]) ∧ Below w.heap.size w w' := by
 have q1 := fun W => within_any s 1 W
 have q2 := fun W => within_any o 1 W
 cases hs : wthB s 1 with
 | false =>
  rw [hs] at q1
  have ⟨Hq1, Hq2, Hhs, Hh⟩ := hid4 q1 q2 hs h; clear q1 q2 hs h
  go_enter Tryz.func48, Tryz.ntmps48
  go_wp2_with fail
  refine (Hq1.out _).mono ?_
  rintro e w_ ⟨rfl, rfl⟩
  go_wp2_with fail
  refine bodyPost_ret (by simp [results, Tryz.results48, go_sem]; rfl) rfl ?_
  exact ⟨rfl, belt⟩
 | true =>
  rw [hs] at q1
  have ho : wthB o 1 = false := by rw [hs] at h; simpa using h
  rw [ho] at q2
  have ⟨Hq1, Hq2, Hhs, Hh, Hho⟩ := hid5 q1 q2 hs h ho; clear q1 q2 hs h ho
  go_enter Tryz.func48, Tryz.ntmps48
  go_wp2_with fail
  refine (Hq1.out _).mono ?_
  rintro e w_ ⟨rfl, rfl⟩
  go_wp2_with fail
  refine (Hq2.out _).mono ?_
  rintro e w_ ⟨rfl, rfl⟩
  go_wp2_with fail
  refine bodyPost_ret (by simp [results, Tryz.results48, go_sem]; rfl) rfl ?_
  exact ⟨rfl, belt⟩
/-- G ^ S * public ^ (Q - E) -/
def backN (p e s : Nat) : Nat := pw 4 s PP * pw p ((QQ - e) % QQ) PP % PP
theorem backN_lt (p e s : Nat) : backN p e s < PP := Nat.mod_lt _ (by decide)
/-- a signature is right -/
def rightB (p e s : Nat) (l : List Int) : Bool := e == chN ((backN p e s : Nat) :: (p : Int) :: l)
/-- the numbers of a signature and the key may be -/
def okB (p e s : Int) : Bool := memZ p && wthB e 0 && wthB s 0
theorem verify_no (p e s : Int) (A : Option Addr) (c n : Nat) (w : World) (h : okB p e s = false) :
  Calls Tryz.prog 75 #[.int .i64 p, .agg #[.int .i64 e, .int .i64 s], .slice A n c] w fun x w' => x = .returned (.tuple #[.bool false, .int .i64 1]) ∧ Below w.heap.size w w' := by
 have q1 := fun W => member_any p W
 have q2 := fun W => within_any e 0 W
 have q3 := fun W => within_any s 0 W
 cases hp : memZ p with
 | false =>
  rw [hp] at q1
  have ⟨Hq1, Hq2, Hq3, Hhp, Hh⟩ := hid5 q1 q2 q3 hp h; clear q1 q2 q3 hp h
  go_enter Tryz.func75, Tryz.ntmps75
  go_wp2_with fail
  refine (Hq1.out _).mono ?_; rintro e w1 ⟨rfl, hbw1⟩
  have hsw1 := hbw1.size; (try simp only [World.size_alloc, World.heap_drewN, World.size_setCell, heap_drew] at hsw1)
  have gw1 : Below w.heap.size w w1 := belt
  obtain ⟨kw1x0x0, kw1x0x1⟩ := kc2 hbw1 w.heap.size
  have zw1x0 : w.heap.size < w1.heap.size := by omega
  have Hhbw1 := Lib.hid hbw1; clear hbw1
  go_wp2_with fail
  go_ret2
  exact ⟨rfl, gw1⟩
 | true =>
  rw [hp] at q1
  cases he : wthB e 0 with
  | false =>
   rw [he] at q2
   have ⟨Hq1, Hq2, Hq3, Hhp, Hh, Hhe⟩ := hid6 q1 q2 q3 hp h he; clear q1 q2 q3 hp h he
   go_enter Tryz.func75, Tryz.ntmps75
   go_wp2_with fail
   refine (Hq1.out _).mono ?_; rintro e w1 ⟨rfl, hbw1⟩
   have hsw1 := hbw1.size; (try simp only [World.size_alloc, World.heap_drewN, World.size_setCell, heap_drew] at hsw1)
   have gw1 : Below w.heap.size w w1 := belt
   obtain ⟨kw1x0x0, kw1x0x1⟩ := kc2 hbw1 w.heap.size
   have zw1x0 : w.heap.size < w1.heap.size := by omega
   have Hhbw1 := Lib.hid hbw1; clear hbw1
   go_wp2_with fail
   refine (Hq2.out _).mono ?_
   rintro e w_ ⟨rfl, rfl⟩
   go_wp2_with fail
   go_ret2
   exact ⟨rfl, gw1⟩
  | true =>
   have hs : wthB s 0 = false := by simpa [okB, hp, he] using h
   rw [he] at q2
   rw [hs] at q3
   have ⟨Hq1, Hq2, Hq3, Hhp, Hh, Hhe, Hhs⟩ := hid7 q1 q2 q3 hp h he hs; clear q1 q2 q3 hp h he hs
   go_enter Tryz.func75, Tryz.ntmps75
   go_wp2_with fail
   refine (Hq1.out _).mono ?_; rintro e w1 ⟨rfl, hbw1⟩
   have hsw1 := hbw1.size; (try simp only [World.size_alloc, World.heap_drewN, World.size_setCell, heap_drew] at hsw1)
   have gw1 : Below w.heap.size w w1 := belt
   obtain ⟨kw1x0x0, kw1x0x1⟩ := kc2 hbw1 w.heap.size
   have zw1x0 : w.heap.size < w1.heap.size := by omega
   have Hhbw1 := Lib.hid hbw1; clear hbw1
   go_wp2_with fail
   refine (Hq2.out _).mono ?_
   rintro e w_ ⟨rfl, rfl⟩
   go_wp2_with fail
   refine (Hq3.out _).mono ?_
   rintro e w_ ⟨rfl, rfl⟩
   go_wp2_with fail
   go_ret2
   exact ⟨rfl, gw1⟩
theorem exp_eq (e : Nat) (he : e < QQ) : (1073741789 - (e : Int)) % 1073741789 = (((QQ - e) % QQ : Nat) : Int) := by
 simp only [QQ] at *
 omega
theorem held_end {w w1 W : World} (g : Below w.heap.size w w1) (h : (∀ b o, b < w1.heap.size → W.cell? ⟨b, o, none⟩ = w1.cell? ⟨b, o, none⟩) ∧ Below w1.heap.size w1 W) : Below w.heap.size w W := g.trans (h.2.mono g.size)
set_option maxHeartbeats 2000000 in
theorem verify_yes (p e s : Nat) (A : Option Addr) (c n : Nat) (l : List Int) (hln : l.length = n) (w : World) (hp : memZ p = true) (he : wthB e 0 = true) (hs : wthB s 0 = true) (hl : IntsAt w A .i64 l) (hn : n ≤ 100000) (hf : Fit l) (ht : Tab w) :
  Calls Tryz.prog 75 #[.int .i64 p, .agg #[.int .i64 e, .int .i64 s], .slice A n c] w fun x w' => x = .returned (.tuple #[.bool (rightB p e s l), .int .i64 0]) ∧ Below w.heap.size w w' := by
 have hq : QQ = 1073741789 := rfl
 have hpp : PP = 2147483579 := rfl
 have h1 := memZ_iff.1 hp
 have h2 := wthB_iff.1 he
 have h3 := wthB_iff.1 hs
 have q1 := fun W => member_any p W
 have q2 := fun W => within_any e 0 W
 have q3 := fun W => within_any s 0 W
 rw [hp] at q1
 rw [he] at q2
 rw [hs] at q3
 have ex := exp_eq e (by omega)
 have hK : (QQ - e) % QQ < QQ := Nat.mod_lt _ (by decide)
 have hback : backN p e s = pw 4 s PP * pw p ((QQ - e) % QQ) PP % PP := rfl
 generalize hKK : (QQ - e) % QQ = K at *
 have hb1 := cast_mulmod (pw 4 s PP) (pw p K PP)
 rw [← hback] at hb1
 have hm1 := mul_lt31 (pw_lt (a := 4) (x := s) (m := PP) (by decide)) (pw_lt (a := p) (x := K) (m := PP) (by decide))
 have hm0 : 0 ≤ ((pw 4 s PP : Nat) : Int) * ((pw p K PP : Nat) : Int) := Int.mul_nonneg (by omega) (by omega)
 have hbl := backN_lt p e s
 have q5 := fun W (h1 : IntsAt W A .i64 l) h2 => challenge_any (backN p e s : Nat) (p : Nat) A c n l hln W (by omega) (by omega) h1 hn hf h2
 have hR : rightB p e s l = (e == chN ((backN p e s : Nat) :: (p : Int) :: l)) := rfl
 generalize chN ((backN p e s : Nat) :: (p : Int) :: l) = C at *
 generalize backN p e s = B at *
 have q4a : ∀ W, Calls Tryz.prog 73 #[.int .i64 4, .int .i64 s] W fun e w' => e = .returned (.int .i64 (pw 4 s PP : Nat)) ∧ Below W.heap.size W w' := fun W => power_any 4 s W (by decide) (by omega)
 have q4b := fun W => power_any p K W (by omega) (by omega)
 generalize ((pw 4 s PP : Nat) : Int) = P1 at *
 generalize ((pw p K PP : Nat) : Int) = P2 at *
 have bw : Below w.heap.size w (w.alloc (.cells #[.int .i64 e, .int .i64 s] 26)) := (Below.refl _ _).alloc (Nat.le_refl _) _
 have z1 : IntKind.i64.wrap (1073741789 - (e : Int)) = 1073741789 - (e : Int) := IntWalk.i64_in _ (by omega)
 have z2 : (1073741789 - (e : Int)).tmod 1073741789 = (K : Int) := by rw [Int.tmod_eq_emod_of_nonneg (by omega)]; exact ex
 have z3 : IntKind.i64.wrap (P1 * P2) = P1 * P2 := IntWalk.i64_in _ (by omega)
 have z4 : (P1 * P2).tmod 2147483579 = (B : Int) := by rw [Int.tmod_eq_emod_of_nonneg (by omega)]; exact hb1
 have zc : ((e : Int) == (C : Int)) = (e == C) := by rw [Bool.eq_iff_iff, beq_iff_eq, beq_iff_eq]; omega
 have ⟨Hq1, Hq2, Hq3, Hq4a, Hq4b, Hq5, Hhl, Hht⟩ := hid8 q1 q2 q3 q4a q4b q5 hl ht; clear q1 q2 q3 q4a q4b q5 hl ht; have ⟨Hhf, Hhln, Hhp, Hhe, Hhs, Hh1, Hh2, Hh3⟩ := hid8 hf hln hp he hs h1 h2 h3; clear hf hln hp he hs h1 h2 h3; have ⟨Hhq, Hhpp, Hex, HhK, Hhback, HhKK, Hhb1, HhR⟩ := hid8 hq hpp ex hK hback hKK hb1 hR; clear hq hpp ex hK hback hKK hb1 hR; have ⟨Hhbl, Hbw, Hhm1, Hhm0, Hz1, Hz2, Hz3, Hz4⟩ := hid8 hbl bw hm1 hm0 z1 z2 z3 z4; clear hbl bw hm1 hm0 z1 z2 z3 z4; have Hzc := Lib.hid zc; clear zc
 go_enter Tryz.func75, Tryz.ntmps75
 go_wp2_with fail
 refine (Hq1.out _).mono ?_; rintro e w1 ⟨rfl, hbw1⟩
 have hsw1 := hbw1.size; (try simp only [World.size_alloc, World.heap_drewN, World.size_setCell, heap_drew] at hsw1)
 have gw1 : Below w.heap.size w w1 := belt
 obtain ⟨kw1x0x0, kw1x0x1⟩ := kc2 hbw1 w.heap.size
 have zw1x0 : w.heap.size < w1.heap.size := by omega
 have Hhbw1 := Lib.hid hbw1; clear hbw1
 go_wp2_with fail
 refine (Hq2.out _).mono ?_
 rintro e w_ ⟨rfl, rfl⟩
 go_wp2_with fail
 refine (Hq3.out _).mono ?_
 rintro e w_ ⟨rfl, rfl⟩
 go_wp2_with fail
 have z1 := Hz1.out
 have z2 := Hz2.out
 have z3 := Hz3.out
 have z4 := Hz4.out
 have l1 := Hhl.out.below gw1
 have t1 := Hht.out.below gw1
 have ⟨Hl1, Ht1⟩ := hid2 l1 t1; clear l1 t1
 go_region_held3 (fun W => (∀ b o, b < w1.heap.size → W.cell? ⟨b, o, none⟩ = w1.cell? ⟨b, o, none⟩) ∧ Below w1.heap.size w1 W) (first | (refine ext_mk ?_; exact belt)) (first | (go_at_call 73; ((with_reducible refine (Hq4a.out _).mono ?_); rintro e w2 ⟨rfl, hb2⟩)) | (go_at_call 73; ((with_reducible refine (Hq4b.out _).mono ?_); rintro e w2 ⟨rfl, hb2⟩)))
 all_goals
  clear z1 z2 z3 z4
  go_wp2_with fail
  have zs : ((s : Int) == (s : Int)) = true := by simp
  have zc := Hzc.out
  generalize hec : (e == C) = EC at *
  cases EC with
  | true =>
   have Hhec := Lib.hid hec; clear hec
   go_region_held3 (fun W => (∀ b o, b < w1.heap.size → W.cell? ⟨b, o, none⟩ = w1.cell? ⟨b, o, none⟩) ∧ Below w1.heap.size w1 W) (first | (refine ext_mk ?_; exact belt)) (first | (go_at_call 95; refine (Hq5.out _ ?_ ?_).mono ?_; (focus (exact Hl1.out.below (And.right (by assumption)))); (focus (exact Ht1.out.below (And.right (by assumption)))); rintro e w3 ⟨rfl, hb3⟩))
   all_goals
    go_wp2_with fail
    go_ret2
    rw [HhR.out]
    exact ⟨rfl, held_end gw1 (by assumption)⟩
  | false =>
   have Hhec := Lib.hid hec; clear hec
   go_region_held3 (fun W => (∀ b o, b < w1.heap.size → W.cell? ⟨b, o, none⟩ = w1.cell? ⟨b, o, none⟩) ∧ Below w1.heap.size w1 W) (first | (refine ext_mk ?_; exact belt)) (first | (go_at_call 95; refine (Hq5.out _ ?_ ?_).mono ?_; (focus (exact Hl1.out.below (And.right (by assumption)))); (focus (exact Ht1.out.below (And.right (by assumption)))); rintro e w3 ⟨rfl, hb3⟩))
   all_goals
    go_wp2_with fail
    go_ret2
    rw [HhR.out]
    exact ⟨rfl, held_end gw1 (by assumption)⟩
theorem right_law (s o : Nat) (l : List Int) : rightB (pw 4 s PP) (sigE s o l) (sigS s o l) l = true := by
 rw [rightB, backN, sigS, back_right s o _ (sigE_lt s o l), beq_iff_eq]; rfl
theorem pw45 : pw 4 5 PP = 1024 := by decide
end Go.Proofs.YtclgncaghiinhaaGreatDoor

/- Package doors: isTime, within. -/
import Derived.BigGuardPart
import Derived.Deep.CutRange
import Derived.Test.YtclgncaghiinhaaGreatDoorU4
import Derived.Test.YtclgncaghiinhaaGreatDoorU8
import Derived.Test.YtclgncaghiinhaaGreatDoorU16
set_option linter.unusedSimpArgs false
set_option linter.unusedVariables false
set_option maxRecDepth 100000
namespace Go.Proofs.YtclgncaghiinhaaGreatDoor
open Go.RowKit
theorem disTime_any (t : Int) (w : World) : Calls Tryz.prog 25 #[.int .i64 t] w fun e w' => e = .returned (.bool (timeB t)) ∧ Below w.heap.size w w' := by
 have q1 := fun W => clockTrue_any t 0 W
 have e : errN (readB t 0) = if timeB t = true then 0 else 1 := by
  have : errB 0 = true := by decide
  rw [readB, this, Bool.and_true]; rfl
 rw [e] at q1
 generalize trueA t 0 = ta at *
 generalize trueB t 0 = tb at *
 have bb0 := Below.refl w.heap.size w
 obtain ⟨w0, hw0⟩ : ∃ W, w = W := ⟨_, rfl⟩
 rw [hw0] at bb0 ⊢
 cases hT : timeB t with
 | true =>
  rw [hT, if_pos rfl] at q1
  have ⟨Hq1, He, HhT, Hhw0, Hbb0⟩ := hid5 q1 e hT hw0 bb0; clear q1 e hT hw0 bb0
  go_enter Tryz.func25, Tryz.ntmps25
  go_wp2_with fail
  (with_reducible refine (Hq1.out _).mono ?_)
  rintro e w1 ⟨rfl, b1⟩
  have c1 : Below w0.heap.size w0 w1 := Below.trans belt (b1.mono omh)
  have s1 := c1.size
  have bb1 := Hbb0.out.trans (c1.mono Hbb0.out.size)
  have ⟨Hb1, Hc1, Hbb1⟩ := hid3 b1 c1 bb1; clear b1 c1 bb1
  have bx : Below w0.heap.size w0 (w1.alloc (.cells #[.int .i64 ta, .int .i64 tb] 98)) := Hbb1.out.alloc Hbb1.out.size _
  have Hbx := Lib.hid bx; clear bx
  go_wp2_with fail
  go_ret
  exact ⟨rfl, Hbx.out⟩
 | false =>
  rw [hT, if_neg (by decide)] at q1
  have ⟨Hq1, He, HhT, Hhw0, Hbb0⟩ := hid5 q1 e hT hw0 bb0; clear q1 e hT hw0 bb0
  go_enter Tryz.func25, Tryz.ntmps25
  go_wp2_with fail
  (with_reducible refine (Hq1.out _).mono ?_)
  rintro e w1 ⟨rfl, b1⟩
  have c1 : Below w0.heap.size w0 w1 := Below.trans belt (b1.mono omh)
  have s1 := c1.size
  have bb1 := Hbb0.out.trans (c1.mono Hbb0.out.size)
  have ⟨Hb1, Hc1, Hbb1⟩ := hid3 b1 c1 bb1; clear b1 c1 bb1
  have bx : Below w0.heap.size w0 (w1.alloc (.cells #[.int .i64 ta, .int .i64 tb] 98)) := Hbb1.out.alloc Hbb1.out.size _
  have Hbx := Lib.hid bx; clear bx
  go_wp2_with fail
  go_ret
  exact ⟨rfl, Hbx.out⟩
/-- each number of a pair from 0 to before the one behind it -/
def withD : List Int → Bool
 | a :: b :: r => (decide (0 ≤ a) && decide (a < b)) && withD r
 | _ => true
theorem withD_step {l : List Int} {k : Nat} (h : 2 * k + 1 < l.length) : withD (l.drop (2 * k)) = ((decide (0 ≤ l.getD (2 * k) 0) && decide (l.getD (2 * k) 0 < l.getD (2 * k + 1) 0)) && withD (l.drop (2 * (k + 1)))) := by
 rw [List.drop_eq_getElem_cons (by omega : 2 * k < l.length), List.drop_eq_getElem_cons h, withD, List.getD_eq_getElem?_getD, List.getD_eq_getElem?_getD, List.getElem?_eq_getElem h, List.getElem?_eq_getElem (by omega : 2 * k < l.length)]
 rfl
theorem withD_end {l : List Int} {k : Nat} (h : l.length ≤ 2 * k + 1) : withD (l.drop (2 * k)) = true := by
 have : (l.drop (2 * k)).length ≤ 1 := by rw [List.length_drop]; omega
 match hl : l.drop (2 * k), this with
 | [], _ => rfl
 | [x], _ => rfl
set_option maxRecDepth 100000 in
set_option maxHeartbeats 8000000 in
theorem dwithin_any (A : Option Addr) (c n : Nat) (l : List Int) (hln : l.length = n) (hn : n ≤ 1000000) (w : World) (hl : IntsAt w A .i64 l) :
  Calls Tryz.prog 24 #[.slice A n c] w fun e w' => e = .returned (.bool (withD l)) ∧ Below w.heap.size w w' := by
 have bb := Below.refl w.heap.size w
 have ⟨Hhl, Hhln, Hbb⟩ := hid3 hl hln bb; clear hl hln bb
 go_enter Tryz.func24, Tryz.ntmps24
 go_upto_region 2 with (fail)
 go_loopw [3] (fun i wr => ∃ k : Nat, 2 * k ≤ n + 1 ∧ i = .int .i64 ((2 * k : Nat) : Int) ∧ withD l = withD (l.drop (2 * k)) ∧ Below w.heap.size w wr) (fun i _ => n + 2 - (intOf i).toNat)
 case atStart => exact ⟨0, by omega, rfl, rfl, Hbb.out⟩
 case round =>
  obtain ⟨k, hk, rfl, hok, bz⟩ := hrel
  obtain ⟨i, hi⟩ : ∃ i, 2 * k = i := ⟨_, rfl⟩
  rw [hi] at hok hk ⊢
  have wk1 : IntKind.i64.wrap ((i : Int) + 1) = (i : Int) + 1 := IntWalk.i64_in _ (by omega)
  have wk2 : IntKind.i64.wrap ((i : Int) + 2) = (i : Int) + 2 := IntWalk.i64_in _ (by omega)
  by_cases hlt : i + 1 < n
  ·have g1 : (i : Int) + 1 < (n : Int) := by omega
   have g0 : (0 : Int) ≤ (i : Int) := by omega
   have g2 : (i : Int) < (n : Int) := by omega
   have g3 : (0 : Int) ≤ (i : Int) + 1 := by omega
   have st := @withD_step l k (by rw [Hhln.out]; omega)
   rw [hi, show 2 * (k + 1) = i + 2 by omega] at st
   obtain ⟨b, off, hA, hb, hc1⟩ := (Hhl.out.below bz) i (by rw [Hhln.out]; omega)
   obtain ⟨b', off', hA', _, hc2⟩ := (Hhl.out.below bz) (i + 1) (by rw [Hhln.out]; omega)
   rw [hA] at hA'
   injection hA' with hA'
   injection hA' with h1 h2
   subst h1 h2 hA
   have ti : ((i : Int) + 1).toNat = i + 1 := by omega
   generalize l.getD i 0 = x at *
   generalize l.getD (i + 1) 0 = y at *
   rw [st] at hok
   by_cases c1 : x < 0
   ·have d1 : decide (x < 0) = true := decide_eq_true c1
    have fin : withD l = false := by rw [hok, decide_eq_false (by omega : ¬ 0 ≤ x)]; rfl
    have ⟨Hhok, Hbz, Hst, Hfin, Hhi⟩ := hid5 hok bz st fin hi; clear hok bz st fin hi
    go_upto_region 4 with (fail)
    refine wp_region_held_drew (S := (fun W => (∀ b o, b < wr.heap.size → W.cell? ⟨b, o, none⟩ = wr.cell? ⟨b, o, none⟩) ∧ Below wr.heap.size wr W)) (by kernel_rfl) ?_ (fun hHeld => ?_)
    ·(try dsimp only); (first | (refine ext_mk ?_; exact belt))
    refine tq 0 (some 11) ?_
    (try simp only [apz])
    refine tq 1 (some 12) ?_
    (try simp only [apz])
    refine tq 2 (some 13) ?_
    (try simp only [apz])
    refine tq 3 (some 14) ?_
    (try simp only [apz])
    refine tq 4 (some 15) ?_
    (try simp only [apz])
    refine tq 5 (some 16) ?_
    (try simp only [apz])
    refine skip_at (i := 6) (some 17) rfl rfl (by kernel_rfl) (fun _ _ _ h => h) (by rfl) (by assumption) ?_
    (try simp only [apz])
    refine skip_at (i := 7) (some 18) rfl rfl (by kernel_rfl) (fun _ _ _ h => h) (by rfl) (by assumption) ?_
    (try simp only [apz])
    refine skip_at (i := 8) (some 19) rfl rfl (by kernel_rfl) (fun _ _ _ h => h) (by rfl) (by assumption) ?_
    (try simp only [apz])
    refine skip_at (i := 9) (some 20) rfl rfl (by kernel_rfl) (fun _ _ _ h => h) (by rfl) (by assumption) ?_
    (try simp only [apz])
    refine skip_at (i := 10) (some 21) rfl rfl (by kernel_rfl) (fun _ _ _ h => h) (by rfl) (by assumption) ?_
    (try simp only [apz])
    refine skip_at (i := 11) (some 22) rfl rfl (by kernel_rfl) (fun _ _ _ h => h) (by rfl) (by assumption) ?_
    (try simp only [apz])
    refine skip_at (i := 12) (some 23) rfl rfl (by kernel_rfl) (fun _ _ _ h => h) (by rfl) (by assumption) ?_
    (try simp only [apz])
    refine skip_at (i := 13) (some 24) rfl rfl (by kernel_rfl) (fun _ _ _ h => h) (by rfl) (by assumption) ?_
    (try simp only [apz])
    refine skip_at (i := 14) (some 25) rfl rfl (by kernel_rfl) (fun _ _ _ h => h) (by rfl) (by assumption) ?_
    (try simp only [apz])
    refine skip_at (i := 15) (some 26) rfl rfl (by kernel_rfl) (fun _ _ _ h => h) (by rfl) (by assumption) ?_
    (try simp only [apz])
    refine tq 16 (some 27) ?_
    (try simp only [apz])
    refine wpAnyH_done (by kernel_rfl) ?_ _
    have gF : Below wr.heap.size wr _ := And.right (by assumption)
    have gG := Hbz.out.trans (gF.mono Hbz.out.size)
    have ⟨HgF, HgG⟩ := hid2 gF gG; clear gF gG
    go_wp2_with fail
    go_ret
    exact ⟨ret_bool Hfin.out.symm, HgG.out⟩
   have d1 : decide (x < 0) = false := decide_eq_false c1
   by_cases c2 : y ≤ x
   ·have d2 : decide (y ≤ x) = true := decide_eq_true c2
    have fin : withD l = false := by rw [hok, decide_eq_false (by omega : ¬ x < y)]; simp
    have ⟨Hhok, Hbz, Hst, Hfin, Hhi⟩ := hid5 hok bz st fin hi; clear hok bz st fin hi
    go_upto_region 4 with (fail)
    refine wp_region_held_drew (S := (fun W => (∀ b o, b < wr.heap.size → W.cell? ⟨b, o, none⟩ = wr.cell? ⟨b, o, none⟩) ∧ Below wr.heap.size wr W)) (by kernel_rfl) ?_ (fun hHeld => ?_)
    ·(try dsimp only); (first | (refine ext_mk ?_; exact belt))
    refine tq 0 (some 11) ?_
    (try simp only [apz])
    refine tq 1 (some 12) ?_
    (try simp only [apz])
    refine tq 2 (some 13) ?_
    (try simp only [apz])
    refine tq 3 (some 14) ?_
    (try simp only [apz])
    refine tq 4 (some 15) ?_
    (try simp only [apz])
    refine tq 5 (some 16) ?_
    (try simp only [apz])
    refine tq 6 (some 17) ?_
    (try simp only [apz])
    refine tq 7 (some 18) ?_
    (try simp only [apz])
    refine tq 8 (some 19) ?_
    (try simp only [apz])
    refine tq 9 (some 20) ?_
    (try simp only [apz])
    refine tq 10 (some 21) ?_
    (try simp only [apz])
    refine tq 11 (some 22) ?_
    (try simp only [apz])
    refine tq 12 (some 23) ?_
    (try simp only [apz])
    refine tq 13 (some 24) ?_
    (try simp only [apz])
    refine tq 14 (some 25) ?_
    (try simp only [apz])
    refine tq 15 (some 26) ?_
    (try simp only [apz])
    refine tq 16 (some 27) ?_
    (try simp only [apz])
    refine wpAnyH_done (by kernel_rfl) ?_ _
    have gF : Below wr.heap.size wr _ := And.right (by assumption)
    have gG := Hbz.out.trans (gF.mono Hbz.out.size)
    have ⟨HgF, HgG⟩ := hid2 gF gG; clear gF gG
    go_wp2_with fail
    go_ret
    exact ⟨ret_bool Hfin.out.symm, HgG.out⟩
   have d2 : decide (y ≤ x) = false := decide_eq_false c2
   have fin : withD l = withD (l.drop (i + 2)) := by rw [hok, decide_eq_true (by omega : 0 ≤ x), decide_eq_true (by omega : x < y)]; rfl
   have ⟨Hhok, Hbz, Hst, Hfin, Hhi⟩ := hid5 hok bz st fin hi; clear hok bz st fin hi
   go_upto_region 4 with (fail)
   refine wp_region_held_drew (S := (fun W => (∀ b o, b < wr.heap.size → W.cell? ⟨b, o, none⟩ = wr.cell? ⟨b, o, none⟩) ∧ Below wr.heap.size wr W)) (by kernel_rfl) ?_ (fun hHeld => ?_)
   ·(try dsimp only); (first | (refine ext_mk ?_; exact belt))
   refine tq 0 (some 11) ?_
   (try simp only [apz])
   refine tq 1 (some 12) ?_
   (try simp only [apz])
   refine tq 2 (some 13) ?_
   (try simp only [apz])
   refine tq 3 (some 14) ?_
   (try simp only [apz])
   refine tq 4 (some 15) ?_
   (try simp only [apz])
   refine tq 5 (some 16) ?_
   (try simp only [apz])
   refine tq 6 (some 17) ?_
   (try simp only [apz])
   refine tq 7 (some 18) ?_
   (try simp only [apz])
   refine tq 8 (some 19) ?_
   (try simp only [apz])
   refine tq 9 (some 20) ?_
   (try simp only [apz])
   refine tq 10 (some 21) ?_
   (try simp only [apz])
   refine tq 11 (some 22) ?_
   (try simp only [apz])
   refine tq 12 (some 23) ?_
   (try simp only [apz])
   refine tq 13 (some 24) ?_
   (try simp only [apz])
   refine tq 14 (some 25) ?_
   (try simp only [apz])
   refine tq 15 (some 26) ?_
   (try simp only [apz])
   refine tq 16 (some 27) ?_
   (try simp only [apz])
   refine wpAnyH_done (by kernel_rfl) ?_ _
   have gF : Below wr.heap.size wr _ := And.right (by assumption)
   have gG := Hbz.out.trans (gF.mono Hbz.out.size)
   have ⟨HgF, HgG⟩ := hid2 gF gG; clear gF gG
   go_wp2_with fail
   go_roundw
   case rel => exact ⟨k + 1, by have := Hhi.out; omega, by have := Hhi.out; congr 1; omega, by rw [show 2 * (k + 1) = i + 2 by have := Hhi.out; omega]; exact Hfin.out, HgG.out⟩
   case measure => simp [intOf]; omega
  ·have g1 : ¬ (i : Int) + 1 < (n : Int) := by omega
   have fin : withD l = true := by rw [hok, ← hi]; exact withD_end (by rw [Hhln.out]; omega)
   have ⟨Hhok, Hbz, Hfin, Hhi⟩ := hid4 hok bz fin hi; clear hok bz fin hi
   go_wp2_with fail
   go_ret
   exact ⟨ret_bool Hfin.out.symm, Hbz.out⟩
end Go.Proofs.YtclgncaghiinhaaGreatDoor

/- Opening arguments: integers and slices of integers, read out of their cells. -/
import Derived.ProofKit
import Derived.OpenShut
import Derived.ChangeOld
import Derived.Deep.Matrix
import Derived.DataShut
import Derived.SizedLaws
import Derived.Lib.SmallJoins
import Derived.Test.YtclgncaghiinhaaGreatDoorM1
import Derived.Test.YtclgncaghiinhaaGreatDoorM2
import Derived.Test.YtclgncaghiinhaaGreatDoorM7
import Derived.Test.YtclgncaghiinhaaGreatDoorM8
import Derived.Test.YtclgncaghiinhaaGreatDoorM9
set_option linter.unusedSimpArgs false
set_option linter.unusedVariables false
set_option maxRecDepth 100000
namespace Go.Proofs.YtclgncaghiinhaaGreatDoor
open Go.RowKit
/-- two slots are equal -/
def sameS (x y : Slt) : Bool := decide (x = y)
theorem sameS_iff {x y : Slt} : sameS x y = true ↔ x = y := by simp [sameS]
theorem sameS_self (x : Slt) : sameS x x = true := by simp [sameS]
theorem sameS_no {xs xc xu ys yc yu : Int} {l k : List Int} (h : ¬ (xs = ys ∧ xc = yc ∧ xu = yu ∧ l.length = k.length)) : sameS ⟨xs, xc, l, xu⟩ ⟨ys, yc, k, yu⟩ = false := by
  rw [Bool.eq_false_iff]; intro h2; rw [sameS_iff] at h2; injection h2 with h1 h2 h3 h4; exact h ⟨h1, h2, h4, by rw [h3]⟩
theorem sameS_l {s c u : Int} {l k : List Int} : sameS ⟨s, c, l, u⟩ ⟨s, c, k, u⟩ = sameB l k := by
  rw [Bool.eq_iff_iff, sameS_iff, sameB_iff]; constructor
  · intro h; injection h
  · rintro rfl; rfl
set_option maxHeartbeats 4000000 in
theorem rsame_no (xs xc xu ys yc yu : Int) (A : Option Addr) (n p : Nat) (l : List Int) (hln : l.length = n) (B : Option Addr) (m q : Nat) (k : List Int) (hkm : k.length = m) (w : World) (hn : n ≤ 100000) (hm : m ≤ 100000) (h : ¬ (xs = ys ∧ xc = yc ∧ xu = yu ∧ n = m)) :
    Calls Tryz.prog 93 #[.agg #[.int .i64 xs, .int .i64 xc, .slice A n p, .int .u64 xu], .agg #[.int .i64 ys, .int .i64 yc, .slice B m q, .int .u64 yu]] w fun e w' => e = .returned (.bool (sameS ⟨xs, xc, l, xu⟩ ⟨ys, yc, k, yu⟩)) ∧ Below w.heap.size w w' := by
  rw [sameS_no (by rw [hln, hkm]; exact h)]
  by_cases a0 : xs = ys
  rotate_left
  · have d0 : (xs != ys) = true := by rw [bne_iff_ne]; omega
    clear h
    clear a0
    go_enter Tryz.func93, Tryz.ntmps93
    go_wp2_with fail
    go_ret
    exact ⟨rfl, belt⟩
  have d0 : (xs != ys) = false := by rw [bne_eq_false_iff_eq]; omega
  have a0 := Lib.hid a0
  by_cases a1 : xc = yc
  rotate_left
  · have d1 : (xc != yc) = true := by rw [bne_iff_ne]; omega
    clear h
    clear a1
    go_enter Tryz.func93, Tryz.ntmps93
    go_wp2_with fail
    go_ret
    exact ⟨rfl, belt⟩
  have d1 : (xc != yc) = false := by rw [bne_eq_false_iff_eq]; omega
  have a1 := Lib.hid a1
  by_cases a2 : xu = yu
  rotate_left
  · have d2 : (xu != yu) = true := by rw [bne_iff_ne]; omega
    clear h
    clear a2
    go_enter Tryz.func93, Tryz.ntmps93
    go_wp2_with fail
    go_ret
    exact ⟨rfl, belt⟩
  have d2 : (xu != yu) = false := by rw [bne_eq_false_iff_eq]; omega
  have a2 := Lib.hid a2
  by_cases a3 : n = m
  rotate_left
  · have d3 : ((n : Int) != (m : Int)) = true := by rw [bne_iff_ne]; omega
    clear h
    clear a3
    go_enter Tryz.func93, Tryz.ntmps93
    go_wp2_with fail
    go_ret
    exact ⟨rfl, belt⟩
  have d3 : ((n : Int) != (m : Int)) = false := by rw [bne_eq_false_iff_eq]; omega
  have a3 := Lib.hid a3
  exact absurd ⟨a0.out, a1.out, a2.out, a3.out⟩ h
set_option maxHeartbeats 8000000 in
theorem rsame_yes (s c u : Int) (A : Option Addr) (n p : Nat) (l : List Int) (hln : l.length = n) (B : Option Addr) (q : Nat) (k : List Int) (hkn : k.length = n) (w : World) (hn : n ≤ 100000) (hl : IntsAt w A .i64 l) (hk : IntsAt w B .i64 k) :
    Calls Tryz.prog 93 #[.agg #[.int .i64 s, .int .i64 c, .slice A n p, .int .u64 u], .agg #[.int .i64 s, .int .i64 c, .slice B n q, .int .u64 u]] w fun e w' => e = .returned (.bool (sameS ⟨s, c, l, u⟩ ⟨s, c, k, u⟩)) ∧ Below w.heap.size w w' := by
  rw [sameS_l]
  have hof := @list_eq_of l k
  have hne := fun j => @list_ne_at l k j
  generalize sameB l k = R at *
  have d0 : (s != s) = false := by simp
  have d1 : (c != c) = false := by simp
  have d2 : (u != u) = false := by simp
  have d3 : ((n : Int) != (n : Int)) = false := by simp
  obtain ⟨w1, hw1⟩ : ∃ w1, (w.alloc (.cells #[.int .i64 s, .int .i64 c, .slice A n p, .int .u64 u] 45)).alloc (.cells #[.int .i64 s, .int .i64 c, .slice B n q, .int .u64 u] 45) = w1 := ⟨_, rfl⟩
  have b1 : Below w.heap.size w w1 := by rw [← hw1]; exact ((Below.refl _ _).alloc (Nat.le_refl _) _).alloc (by simp) _
  have k2 : Cel w1 w.heap.size 2 (.slice A n p) := by rw [← hw1]; exact (cel_new rfl rfl).alloc _
  have m2 : Cel w1 (w.heap.size + 1) 2 (.slice B n q) := by rw [← hw1]; exact cel_new (by simp) rfl
  have l1 := hl.below b1
  have j1 := hk.below b1
  have ⟨H_hl, H_hk, H_hln, H_hkn, H_hof, H_hne, H_b1, H_k2⟩ := hid8 hl hk hln hkn hof hne b1 k2; clear hl hk hln hkn hof hne b1 k2; have ⟨H_m2, H_l1, H_j1, H_hw1⟩ := hid4 m2 l1 j1 hw1; clear m2 l1 j1 hw1
  go_enter Tryz.func93, Tryz.ntmps93
  go_wp2_with fail
  clear d0 d1 d2 d3
  rw [H_hw1.out]
  go_loopw [5] (fun i wr => ∃ j : Nat, j ≤ n ∧ i = .int .i64 j ∧ Below w1.heap.size w1 wr ∧ ∀ i, i < j → l.getD i 0 = k.getD i 0) (fun i _ => n - (intOf i).toNat)
  case atStart => exact ⟨0, by omega, rfl, Below.refl _ _, fun i hi => by omega⟩
  case round =>
    obtain ⟨j, hj, rfl, hb, hp⟩ := hrel
    have c2 := (H_k2.out.below hb).at
    have e2 := (H_m2.out.below hb).at
    by_cases hlt : j < n
    · have g1 : (j : Int) < (n : Int) := by omega
      have g0 : (0 : Int) ≤ (j : Int) := by omega
      obtain ⟨b, off, rfl, hbl, hc⟩ := (H_l1.out.below hb) j (by rw [H_hln.out]; exact hlt)
      obtain ⟨b', off', rfl, hbl', hc'⟩ := (H_j1.out.below hb) j (by rw [H_hkn.out]; exact hlt)
      have hx := H_hne.out j
      generalize hX : l.getD j 0 = x at *
      generalize hY : k.getD j 0 = y at *
      have ⟨H_hp, H_hb, H_hx, H_hX, H_hY⟩ := hid5 hp hb hx hX hY; clear hp hb hx hX hY
      by_cases he : x = y
      · have e1 : (x != y) = false := by rw [bne_eq_false_iff_eq]; exact he
        have H_he := Lib.hid he; clear he
        go_wp2_with fail
        go_quiet (fail)
        go_wp2_with fail
        go_roundw
        case rel =>
          refine ⟨j + 1, by omega, by go_num, below_drewN H_hb.out _, fun i hi => ?_⟩
          rcases Nat.lt_or_ge i j with h | h
          · exact H_hp.out i h
          · obtain rfl : i = j := by omega
            rw [H_hX.out, H_hY.out]; exact H_he.out
        case measure => simp [intOf]; omega
      · have e1 : (x != y) = true := by rw [bne_iff_ne]; exact he
        have hF : R = false := H_hx.out he
        have ⟨H_he, H_hF⟩ := hid2 he hF; clear he hF
        go_wp2_with fail
        go_quiet (fail)
        go_wp2_with fail
        go_ret
        exact ⟨ret_bool H_hF.out.symm, below_drewN (H_b1.out.trans (H_hb.out.mono H_b1.out.size)) _⟩
    · have g1 : ¬ (j : Int) < (n : Int) := by omega
      have hF : R = true := H_hof.out (by rw [H_hln.out, H_hkn.out]) fun i hi => hp i (by rw [H_hln.out] at hi; omega)
      have ⟨H_hp, H_hb, H_hF⟩ := hid3 hp hb hF; clear hp hb hF
      go_wp2_with fail
      go_ret
      exact ⟨ret_bool H_hF.out.symm, H_b1.out.trans (H_hb.out.mono H_b1.out.size)⟩
theorem rsame_at (x y : Slt) (A : Option Addr) (n p : Nat) (hx : x.l.length = n) (B : Option Addr) (m q : Nat) (hy : y.l.length = m) (w : World) (hn : n ≤ 100000) (hm : m ≤ 100000) (hl : IntsAt w A .i64 x.l) (hk : IntsAt w B .i64 y.l) :
    Calls Tryz.prog 93 #[.agg #[.int .i64 x.s, .int .i64 x.c, .slice A n p, .int .u64 x.u], .agg #[.int .i64 y.s, .int .i64 y.c, .slice B m q, .int .u64 y.u]] w fun e w' => e = .returned (.bool (sameS x y)) ∧ Below w.heap.size w w' := by
  obtain ⟨xs, xc, l, xu⟩ := x
  obtain ⟨ys, yc, k, yu⟩ := y
  dsimp only at *
  by_cases h : xs = ys ∧ xc = yc ∧ xu = yu ∧ n = m
  · obtain ⟨rfl, rfl, rfl, rfl⟩ := h
    exact rsame_yes xs xc xu A n p l hx B q k hy w hn hl hk
  · exact rsame_no xs xc xu ys yc yu A n p l hx B m q k hy w hn hm h
set_option maxHeartbeats 4000000 in
theorem rsameBoth_any (x0 x1 y0 y1 : Slt) (A : Option Addr) (n p : Nat) (hx0 : x0.l.length = n) (A' : Option Addr) (n' p' : Nat) (hx1 : x1.l.length = n') (B : Option Addr) (m q : Nat) (hy0 : y0.l.length = m) (B' : Option Addr) (m' q' : Nat) (hy1 : y1.l.length = m') (w : World)
    (hn : n ≤ 100000) (hn' : n' ≤ 100000) (hm : m ≤ 100000) (hm' : m' ≤ 100000) (hl : IntsAt w A .i64 x0.l) (hl' : IntsAt w A' .i64 x1.l) (hk : IntsAt w B .i64 y0.l) (hk' : IntsAt w B' .i64 y1.l) :
    Calls Tryz.prog 69 #[.agg #[.int .i64 x0.s, .int .i64 x0.c, .slice A n p, .int .u64 x0.u, .int .i64 x1.s, .int .i64 x1.c, .slice A' n' p', .int .u64 x1.u], .agg #[.int .i64 y0.s, .int .i64 y0.c, .slice B m q, .int .u64 y0.u, .int .i64 y1.s, .int .i64 y1.c, .slice B' m' q', .int .u64 y1.u]] w
      fun e w' => e = .returned (.bool (sameS x0 y0 && sameS x1 y1)) ∧ Below w.heap.size w w' := by
  obtain ⟨w1, hw1⟩ : ∃ w1, (w.alloc (.cells #[.int .i64 x0.s, .int .i64 x0.c, .slice A n p, .int .u64 x0.u, .int .i64 x1.s, .int .i64 x1.c, .slice A' n' p', .int .u64 x1.u] 46)).alloc (.cells #[.int .i64 y0.s, .int .i64 y0.c, .slice B m q, .int .u64 y0.u, .int .i64 y1.s, .int .i64 y1.c, .slice B' m' q', .int .u64 y1.u] 46) = w1 := ⟨_, rfl⟩
  have b1 : Below w.heap.size w w1 := by rw [← hw1]; exact ((Below.refl _ _).alloc (Nat.le_refl _) _).alloc (by simp) _
  have q1 := rsame_at x0 y0 A n p hx0 B m q hy0 w1 hn hm (hl.below b1) (hk.below b1)
  have q2 := fun W (h : IntsAt W A' .i64 x1.l) (h2 : IntsAt W B' .i64 y1.l) => rsame_at x1 y1 A' n' p' hx1 B' m' q' hy1 W hn' hm' h h2
  rw [← hw1] at q1
  generalize sameS x0 y0 = R at *
  generalize sameS x1 y1 = R' at *
  have ⟨H_hx0, H_hx1, H_hy0, H_hy1, H_hl, H_hl', H_hk, H_hk'⟩ := hid8 hx0 hx1 hy0 hy1 hl hl' hk hk'; clear hx0 hx1 hy0 hy1 hl hl' hk hk'; have ⟨H_hw1, H_b1, H_q1, H_q2⟩ := hid4 hw1 b1 q1 q2; clear hw1 b1 q1 q2
  go_enter Tryz.func69, Tryz.ntmps69
  go_wp2_with fail
  refine (H_q1.out).mono ?_; rintro e w2 ⟨rfl, hbw2⟩
  have hsw2 := hbw2.size; (try simp only [World.size_alloc, World.heap_drewN, World.size_setCell, heap_drew] at hsw2)
  have gw2 : Below w.heap.size w w2 := belt
  have kw2x0x0 := keepc hbw2 (b := w.heap.size) (o := 0) omg (by go_simp; with_reducible rfl)
  have kw2x0x1 := keepc hbw2 (b := w.heap.size) (o := 1) omg (by go_simp; with_reducible rfl)
  have kw2x0x2 := keepc hbw2 (b := w.heap.size) (o := 2) omg (by go_simp; with_reducible rfl)
  have kw2x0x3 := keepc hbw2 (b := w.heap.size) (o := 3) omg (by go_simp; with_reducible rfl)
  have kw2x0x4 := keepc hbw2 (b := w.heap.size) (o := 4) omg (by go_simp; with_reducible rfl)
  have kw2x0x5 := keepc hbw2 (b := w.heap.size) (o := 5) omg (by go_simp; with_reducible rfl)
  have kw2x0x6 := keepc hbw2 (b := w.heap.size) (o := 6) omg (by go_simp; with_reducible rfl)
  have kw2x0x7 := keepc hbw2 (b := w.heap.size) (o := 7) omg (by go_simp; with_reducible rfl)
  have zw2x0 : w.heap.size < w2.heap.size := by omega
  have kw2x1x0 := keepc hbw2 (b := w.heap.size + 1) (o := 0) omg (by go_simp; with_reducible rfl)
  have kw2x1x1 := keepc hbw2 (b := w.heap.size + 1) (o := 1) omg (by go_simp; with_reducible rfl)
  have kw2x1x2 := keepc hbw2 (b := w.heap.size + 1) (o := 2) omg (by go_simp; with_reducible rfl)
  have kw2x1x3 := keepc hbw2 (b := w.heap.size + 1) (o := 3) omg (by go_simp; with_reducible rfl)
  have kw2x1x4 := keepc hbw2 (b := w.heap.size + 1) (o := 4) omg (by go_simp; with_reducible rfl)
  have kw2x1x5 := keepc hbw2 (b := w.heap.size + 1) (o := 5) omg (by go_simp; with_reducible rfl)
  have kw2x1x6 := keepc hbw2 (b := w.heap.size + 1) (o := 6) omg (by go_simp; with_reducible rfl)
  have kw2x1x7 := keepc hbw2 (b := w.heap.size + 1) (o := 7) omg (by go_simp; with_reducible rfl)
  have zw2x1 : w.heap.size + 1 < w2.heap.size := by omega
  have H_hbw2 := Lib.hid hbw2; clear hbw2
  cases R with
  | false =>
    go_wp2_with fail
    go_ret
    exact ⟨rfl, gw2⟩
  | true =>
    have q2 := H_q2.out w2 (H_hl'.out.below gw2) (H_hk'.out.below gw2)
    have H_q2 := Lib.hid q2; clear q2
    go_wp2_with fail
    refine (H_q2.out).mono ?_; rintro e w3 ⟨rfl, hbw3⟩
    have hsw3 := hbw3.size; (try simp only [World.size_alloc, World.heap_drewN, World.size_setCell, heap_drew] at hsw3)
    have gw3 : Below w.heap.size w w3 := belt
    have kw3x0x0 := keepc hbw3 (b := w.heap.size) (o := 0) omg (by go_simp; with_reducible rfl)
    have zw3x0 : w.heap.size < w3.heap.size := by omega
    have H_hbw3 := Lib.hid hbw3; clear hbw3
    clear gw2
    clear kw2x0x0
    clear kw2x0x1
    clear kw2x0x2
    clear kw2x0x3
    clear kw2x0x4
    clear kw2x0x5
    clear kw2x0x6
    clear kw2x0x7
    clear kw2x1x0
    clear kw2x1x1
    clear kw2x1x2
    clear kw2x1x3
    clear kw2x1x4
    clear kw2x1x5
    clear kw2x1x6
    clear kw2x1x7
    go_wp2_with fail
    go_ret
    exact ⟨rfl, gw3⟩
/-- a slot says a counter and lost cards -/
def saysS (x : Slt) (c : Int) (l : List Int) : Bool := sameS ⟨0, x.c, x.l, 0⟩ ⟨0, c, l, 0⟩
theorem saysS_iff {x : Slt} {c : Int} {l : List Int} : saysS x c l = true ↔ x.c = c ∧ x.l = l := by
  rw [saysS, sameS_iff]; simp
def len40B (n : Nat) : Bool := decide (n ≤ 40)
theorem rfew_any (xs xc xu ys yc yu : Int) (A : Option Addr) (n p : Nat) (B : Option Addr) (m q : Nat) (w : World) (hn : n ≤ 9223372036854775807) (hm : m ≤ 9223372036854775807) :
    Calls Tryz.prog 53 #[.agg #[.int .i64 xs, .int .i64 xc, .slice A n p, .int .u64 xu, .int .i64 ys, .int .i64 yc, .slice B m q, .int .u64 yu]] w fun e w' => e = .returned (.bool (len40B n && len40B m)) ∧ Below w.heap.size w w' := by
  by_cases h1 : n ≤ 40
  · have e1 : len40B n = true := decide_eq_true h1
    have d1 : decide ((n : Int) ≤ 40) = true := decide_eq_true (by omega)
    by_cases h2 : m ≤ 40
    · have e2 : len40B m = true := decide_eq_true h2
      have d2 : decide ((m : Int) ≤ 40) = true := decide_eq_true (by omega)
      rw [e1, e2]
      clear e1 e2
      go_enter Tryz.func53, Tryz.ntmps53
      go_wp2_with fail
      go_ret
      exact ⟨rfl, belt⟩
    · have e2 : len40B m = false := decide_eq_false h2
      have d2 : decide ((m : Int) ≤ 40) = false := decide_eq_false (by omega)
      rw [e1, e2]
      clear e1 e2
      go_enter Tryz.func53, Tryz.ntmps53
      go_wp2_with fail
      go_ret
      exact ⟨rfl, belt⟩
  · have e1 : len40B n = false := decide_eq_false h1
    have d1 : decide ((n : Int) ≤ 40) = false := decide_eq_false (by omega)
    rw [e1, Bool.false_and]
    clear e1
    go_enter Tryz.func53, Tryz.ntmps53
    go_wp2_with fail
    go_ret
    exact ⟨rfl, belt⟩
/-- Make, whatever it is called with -/
def mkE (s c : Int) (l : List Int) : Int := if 500 < l.length then 2 else if fldB s c l = true then 0 else 1
def mkS (s c : Int) (l : List Int) : Slt := if mkE s c l = 0 then Slt.made s c l else Slt.zero
theorem make_any (s c : Int) (A : Option Addr) (cap n : Nat) (l : List Int) (hln : l.length = n) (w : World) (hs : -9223372036854775808 ≤ s ∧ s ≤ 9223372036854775807) (hc : -9223372036854775808 ≤ c ∧ c ≤ 9223372036854775807) (hl : IntsAt w A .i64 l) (hn : n ≤ 9223372036854775807) (hf : Fit l) (ht : Tab w) :
    Calls Tryz.prog 45 #[.int .i64 s, .int .i64 c, .slice A n cap] w (SlotErr (mkS s c l) (mkE s c l) w) := by
  by_cases h : 500 < n
  · have e : mkE s c l = 2 := by rw [mkE, if_pos (by omega)]
    rw [mkS, e, if_neg (by omega)]; exact make_long s c A cap n w h hn
  · cases hF : fldB s c l with
    | true =>
      have e : mkE s c l = 0 := by rw [mkE, if_neg (by omega), if_pos hF]
      rw [mkS, e, if_pos rfl]; exact make_ok s c A cap n l hln w hs hc hl (by omega) hf ht hF
    | false =>
      have e : mkE s c l = 1 := by rw [mkE, if_neg (by omega), if_neg (by simp [hF])]
      rw [mkS, e, if_neg (by omega)]; exact make_bad s c A cap n l hln w hs hc hl (by omega) hf ht hF
theorem dec0 : decB 0 = [48] := by rw [decB, Lib.itoa, if_neg (by omega), Lib.decDigits]; rfl
theorem sum_zero : sumS 0 0 [] ≠ 0 := by
  have e : textB 0 [0, 0] = [0, 0, 0, 0, 0, 0, 0, 0, 48, 32, 48, 32] := by
    rw [textB, wordsB, List.flatMap_cons, List.flatMap_cons, dec0]; decide +kernel
  rw [sumS, nextB, e]
  decide +kernel
theorem zero_ok : Slt.zero.ok = false := by
  have : (sumS 0 0 [] == 0) = false := by rw [beq_eq_false_iff_ne]; exact sum_zero
  simp only [Slt.zero, Slt.ok, vldB, this, Bool.and_false]
theorem made_ok {s c : Int} {l : List Int} (h : fldB s c l = true) : (Slt.made s c l).ok = true := by
  simp only [Slt.ok, Slt.made, vldB, h, Bool.true_and, beq_self_eq_true]
theorem torn_ok (s c : Int) (l : List Int) : (⟨s, c, l, (sumS s c l + 1) % 18446744073709551616⟩ : Slt).ok = false := by
  have h := sumS_in s c l
  have : (sumS s c l == (sumS s c l + 1) % 18446744073709551616) = false := by rw [beq_eq_false_iff_ne]; omega
  simp only [Slt.ok, vldB, this, Bool.and_false]
theorem fldB_iff {s c : Int} {l : List Int} : fldB s c l = true ↔ ((0 ≤ s ∧ s ≤ 1000000000) ∧ (0 ≤ c ∧ c ≤ 1000000000) ∧ l.length ≤ 500) ∧ risB 0 l = true := by
  simp only [fldB, Bool.and_eq_true, cntB, wB_iff, len5B, decide_eq_true_eq]
  exact ⟨fun ⟨⟨⟨h1, h2⟩, h3⟩, h4⟩ => ⟨⟨h1, h2, h3⟩, h4⟩, fun ⟨⟨h1, h2, h3⟩, h4⟩ => ⟨⟨⟨h1, h2⟩, h3⟩, h4⟩⟩
section
open Go.RowKit Go.ChangeShapes Go.WideShapes Go.ChangeAt
theorem addr_add {a : Addr} {w : World} {v : Value} {i : Nat} (h : w.cell? (a.add i) = some v) (h0 : a.spot = none) : w.cell? ⟨a.block, a.off + i, none⟩ = some v := by
  rw [← h]
  unfold Addr.add
  split
  · rename_i h1; subst h1; obtain ⟨b, o, s⟩ := a; simp at h0; subst h0; rfl
  · rfl
theorem cell_lt {w : World} {a : Addr} {v : Value} (h : w.cell? a = some v) : a.block < w.heap.size := by
  unfold World.cell? at h
  rcases Nat.lt_or_ge a.block w.heap.size with h1 | h1
  · exact h1
  · rw [Array.getElem?_eq_none h1] at h; cases h
theorem ints_of_cells {w : World} {a : Addr} {k : IntKind} {l : List Int} (h : ∀ i, i < l.length → w.cell? (a.add i) = some (.int k (l.getD i 0))) : IntsAt w (some a) k l := fun i hi => by
  have h0 : w.cell? a = some (.int k (l.getD 0 0)) := h 0 (by omega)
  have hs := World.cell?_spot h0
  exact ⟨a.block, a.off, by obtain ⟨b, o, s⟩ := a; simp at hs; subst hs; rfl, cell_lt h0, addr_add (h i hi) hs⟩
theorem wf_i64 {n : Int} (h : (Lit.int .i64 n).wf = true) : -9223372036854775808 ≤ n ∧ n ≤ 9223372036854775807 := by
  rw [Lit.wf_int_iff] at h; exact h
theorem wf_u64 {n : Int} (h : (Lit.int .u64 n).wf = true) : 0 ≤ n ∧ n ≤ 18446744073709551615 := by
  rw [Lit.wf_int_iff] at h; exact h
end
section
open Go.RowKit Go.ChangeShapes Go.WideShapes Go.ChangeAt
/-- a slice of integers, read out of its one cell -/
theorem read_ints {H : Type} {enc : TypeId × Value → H} {P : Program} {W : World} {held : Bool} {t e : TypeId} {k : IntKind} {v : Value} {fuel : Nat} {y : DataW H × List MemPlace} (ht : P.underlying t = some (.slice e)) (he : P.underlying e = some (.int k)) (hc : P.cellsOf e = 1)
    (hf : DataW.trod enc P W 0 (fun _ => true) held fuel t [v] = some y) : ∃ A c l, v = .slice A l.length c ∧ IntsAt W A k l ∧ l.length ≤ c ∧ c ≤ maxLen ∧ ∀ n ∈ l, (Lit.int k n).wf = true := by
  rcases open_ints ht he hc hf with ⟨hcs, _⟩ | ⟨a, len', cap', zs, hcs, _, hle, hmax, hall, _, hcell, hwf⟩
  · have : v = .slice none 0 0 := by simpa using hcs
    subst this
    exact ⟨none, 0, [], rfl, IntsAt.nil, by simp, by simp, by simp⟩
  · have : v = .slice (some a) len' cap' := by simpa using hcs
    subst this
    simp only [if_true] at hall
    refine ⟨some a, cap', zs.take len', ?_, IntsAt.take (ints_of_cells hcell) len', ?_, hmax, fun n hn => hwf n (List.mem_of_mem_take hn)⟩
    · congr 1; simp; omega
    · simp; omega
theorem read_int {H : Type} {enc : TypeId × Value → H} {P : Program} {W : World} {held : Bool} {t : TypeId} {k : IntKind} {v : Value} {fuel : Nat} {y : DataW H × List MemPlace} (ht : P.underlying t = some (.int k))
    (hf : DataW.trod enc P W 0 (fun _ => true) held fuel t [v] = some y) : ∃ n, v = .int k n ∧ (Lit.int k n).wf = true := by
  obtain ⟨a, ea, _, w⟩ := DataW.trod_int ht hf
  exact ⟨a, by simpa using ea, w⟩
theorem fit_wf {l : List Int} (h : ∀ n ∈ l, (Lit.int .i64 n).wf = true) : Fit l := fun x hx => wf_i64 (h x hx)
end
end Go.Proofs.YtclgncaghiinhaaGreatDoor

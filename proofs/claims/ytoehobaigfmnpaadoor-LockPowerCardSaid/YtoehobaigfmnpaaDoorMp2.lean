/- Contracts of the reference of slot: Same, SameBoth, Says, Few. -/
import Derived.Test.YtoehobaigfmnpaaDoorChecked
import Derived.WalkKit
import Derived.WalkSpells
import Derived.WalkLawsBesides
import Derived.Deep.QuietTactic
import Derived.BigQuiet
import Derived.BigGuardPart
import Derived.Lib.Hide
import Derived.Below
import Derived.IntWalk
import Derived.Laws.Rows
import Derived.OneCell
import Derived.Outline
import Derived.Deep.RegionHeld3
import Derived.Deep.RegionWith
import Derived.Maps.AppendAt
import Derived.Deep.AppendLies
import Derived.Laws.OwnMore
import Derived.OwnWalk
import Derived.Laws.BitsAllLaws
import Derived.Lib.ItoaNum
import Derived.Lib.ItoaLen
import Derived.Shelf.Small.Wraps
import Derived.Shelf.Strconv.Itoa0
import Derived.Shelf.Strconv.Itoa1
import Derived.Shelf.LaysM
import Derived.Shelf.Strconv.Itoa2
import Derived.Shelf.Strconv.Itoa3
import Derived.Shelf.Slices.Turned
import Derived.Shelf.Slices.Reverse
import Derived.Ground.Names2Prog
import Derived.Shelf.Slices.Clone
import Derived.Shelf.Slices.SearchI
import Derived.Shelf.Slices.Cells
import Derived.Shelf.Slices.Empties
import Derived.Test.YtoehobaigfmnpaaDoorProg
import Derived.Lib.AppendIntMem
import Derived.Lib.OthersKept
import Derived.Lib.AppendStr
import Derived.Lib.SlBytesConst
import Derived.Test.YtoehobaigfmnpaaDoorMr1
import Derived.Test.YtoehobaigfmnpaaDoorMr2
import Derived.Test.YtoehobaigfmnpaaDoorMr3
import Derived.Test.YtoehobaigfmnpaaDoorMr4
import Derived.Test.YtoehobaigfmnpaaDoorMr5
import Derived.Test.YtoehobaigfmnpaaDoorMr6
import Derived.Test.YtoehobaigfmnpaaDoorMr7
import Derived.Test.YtoehobaigfmnpaaDoorMr8
import Derived.Test.YtoehobaigfmnpaaDoorMr9
import Derived.Test.YtoehobaigfmnpaaDoorMr10
import Derived.Test.YtoehobaigfmnpaaDoorMr11
import Derived.Test.YtoehobaigfmnpaaDoorMr12
import Derived.Test.YtoehobaigfmnpaaDoorMr13
import Derived.Test.YtoehobaigfmnpaaDoorMr14
import Derived.Test.YtoehobaigfmnpaaDoorMr15
import Derived.Test.YtoehobaigfmnpaaDoorMr16
import Derived.Test.YtoehobaigfmnpaaDoorMr17
import Derived.Test.YtoehobaigfmnpaaDoorMr18
import Derived.Test.YtoehobaigfmnpaaDoorMr19
import Derived.Test.YtoehobaigfmnpaaDoorMr20
import Derived.Test.YtoehobaigfmnpaaDoorMr21
import Derived.Test.YtoehobaigfmnpaaDoorMr22
import Derived.Test.YtoehobaigfmnpaaDoorMr23
import Derived.Test.YtoehobaigfmnpaaDoorMr24
import Derived.Test.YtoehobaigfmnpaaDoorMr25
import Derived.Test.YtoehobaigfmnpaaDoorMr26
import Derived.Test.YtoehobaigfmnpaaDoorMr27
import Derived.Test.YtoehobaigfmnpaaDoorMr28
import Derived.Test.YtoehobaigfmnpaaDoorMr29
import Derived.Test.YtoehobaigfmnpaaDoorMr30
import Derived.Test.YtoehobaigfmnpaaDoorMr31
import Derived.Test.YtoehobaigfmnpaaDoorMr32
import Derived.Test.YtoehobaigfmnpaaDoorMr33
import Derived.Test.YtoehobaigfmnpaaDoorMr34
import Derived.Test.YtoehobaigfmnpaaDoorMr35
import Derived.Test.YtoehobaigfmnpaaDoorMr36
import Derived.Test.YtoehobaigfmnpaaDoorMr37
import Derived.Test.YtoehobaigfmnpaaDoorMr38
import Derived.Test.YtoehobaigfmnpaaDoorMr39
import Derived.Test.YtoehobaigfmnpaaDoorMr40
import Derived.Test.YtoehobaigfmnpaaDoorMr41
import Derived.Test.YtoehobaigfmnpaaDoorMr42
import Derived.Test.YtoehobaigfmnpaaDoorMr43
import Derived.Test.YtoehobaigfmnpaaDoorMr44
import Derived.Test.YtoehobaigfmnpaaDoorMr45
import Derived.Test.YtoehobaigfmnpaaDoorMr46
import Derived.Test.YtoehobaigfmnpaaDoorMr47
import Derived.Test.YtoehobaigfmnpaaDoorMr48
import Derived.Test.YtoehobaigfmnpaaDoorMp1
namespace Go.Proofs.YtoehobaigfmnpaaDoor
set_option linter.unusedSimpArgs false
set_option linter.unusedVariables false
set_option maxRecDepth 100000
open Go.RowKit
theorem sameS_self (x : Slt) : sameS x x = true := by simp [sameS]
theorem sameS_no {xs xc xu ys yc yu : Int} {l k : List Int} (h : ¬ (xs = ys ∧ xc = yc ∧ xu = yu ∧ l.length = k.length)) : sameS ⟨xs, xc, l, xu⟩ ⟨ys, yc, k, yu⟩ = false := by
  rw [Bool.eq_false_iff]; intro h2; rw [sameS_iff] at h2; injection h2 with h1 h2 h3 h4; exact h ⟨h1, h2, h4, by rw [h3]⟩
theorem sameS_l {s c u : Int} {l k : List Int} : sameS ⟨s, c, l, u⟩ ⟨s, c, k, u⟩ = sameB l k := by
  rw [Bool.eq_iff_iff, sameS_iff, sameB_iff]; constructor
  · intro h; injection h
  · rintro rfl; rfl

set_option maxHeartbeats 4000000 in
theorem rsame_no (xs xc xu ys yc yu : Int) (A : Option Addr) (n p : Nat) (l : List Int) (hln : l.length = n) (B : Option Addr) (m q : Nat) (k : List Int) (hkm : k.length = m) (w : World) (hn : n ≤ 100000) (hm : m ≤ 100000) (h : ¬ (xs = ys ∧ xc = yc ∧ xu = yu ∧ n = m)) :
    Calls Tryd.prog 31 #[.agg #[.int .i64 xs, .int .i64 xc, .slice A n p, .int .u64 xu], .agg #[.int .i64 ys, .int .i64 yc, .slice B m q, .int .u64 yu]] w fun e w' => e = .returned (.bool (sameS ⟨xs, xc, l, xu⟩ ⟨ys, yc, k, yu⟩)) ∧ Below w.heap.size w w' := by
  rw [sameS_no (by rw [hln, hkm]; exact h)]
  by_cases a0 : xs = ys
  rotate_left
  · have d0 : (xs != ys) = true := by rw [bne_iff_ne]; omega
    clear h
    clear a0
    go_enter Tryd.func31, Tryd.ntmps31
    go_wp2_with fail
    go_ret
    exact ⟨rfl, belt⟩
  have d0 : (xs != ys) = false := by rw [bne_eq_false_iff_eq]; omega
  have a0 := Lib.hid a0
  by_cases a1 : xc = yc
  rotate_left
  · have d1 : (xc != yc) = true := by rw [bne_iff_ne]; omega
    clear h
    clear a1
    go_enter Tryd.func31, Tryd.ntmps31
    go_wp2_with fail
    go_ret
    exact ⟨rfl, belt⟩
  have d1 : (xc != yc) = false := by rw [bne_eq_false_iff_eq]; omega
  have a1 := Lib.hid a1
  by_cases a2 : xu = yu
  rotate_left
  · have d2 : (xu != yu) = true := by rw [bne_iff_ne]; omega
    clear h
    clear a2
    go_enter Tryd.func31, Tryd.ntmps31
    go_wp2_with fail
    go_ret
    exact ⟨rfl, belt⟩
  have d2 : (xu != yu) = false := by rw [bne_eq_false_iff_eq]; omega
  have a2 := Lib.hid a2
  by_cases a3 : n = m
  rotate_left
  · have d3 : ((n : Int) != (m : Int)) = true := by rw [bne_iff_ne]; omega
    clear h
    clear a3
    go_enter Tryd.func31, Tryd.ntmps31
    go_wp2_with fail
    go_ret
    exact ⟨rfl, belt⟩
  have d3 : ((n : Int) != (m : Int)) = false := by rw [bne_eq_false_iff_eq]; omega
  have a3 := Lib.hid a3
  exact absurd ⟨a0.out, a1.out, a2.out, a3.out⟩ h

set_option maxHeartbeats 8000000 in
theorem rsame_yes (s c u : Int) (A : Option Addr) (n p : Nat) (l : List Int) (hln : l.length = n) (B : Option Addr) (q : Nat) (k : List Int) (hkn : k.length = n) (w : World) (hn : n ≤ 100000) (hl : IntsAt w A .i64 l) (hk : IntsAt w B .i64 k) :
    Calls Tryd.prog 31 #[.agg #[.int .i64 s, .int .i64 c, .slice A n p, .int .u64 u], .agg #[.int .i64 s, .int .i64 c, .slice B n q, .int .u64 u]] w fun e w' => e = .returned (.bool (sameS ⟨s, c, l, u⟩ ⟨s, c, k, u⟩)) ∧ Below w.heap.size w w' := by
  rw [sameS_l]
  have hof := @list_eq_of l k
  have hne := fun j => @list_ne_at l k j
  generalize sameB l k = R at *
  have d0 : (s != s) = false := by simp
  have d1 : (c != c) = false := by simp
  have d2 : (u != u) = false := by simp
  have d3 : ((n : Int) != (n : Int)) = false := by simp
  obtain ⟨w1, hw1⟩ : ∃ w1, (w.alloc (.cells #[.int .i64 s, .int .i64 c, .slice A n p, .int .u64 u] 52)).alloc (.cells #[.int .i64 s, .int .i64 c, .slice B n q, .int .u64 u] 52) = w1 := ⟨_, rfl⟩
  have b1 : Below w.heap.size w w1 := by rw [← hw1]; exact ((Below.refl _ _).alloc (Nat.le_refl _) _).alloc (by simp) _
  have k2 : Cel w1 w.heap.size 2 (.slice A n p) := by rw [← hw1]; exact (cel_new rfl rfl).alloc _
  have m2 : Cel w1 (w.heap.size + 1) 2 (.slice B n q) := by rw [← hw1]; exact cel_new (by simp) rfl
  have l1 := hl.below b1
  have j1 := hk.below b1
  have ⟨H_hl, H_hk, H_hln, H_hkn, H_hof, H_hne, H_b1, H_k2⟩ := hid8 hl hk hln hkn hof hne b1 k2; clear hl hk hln hkn hof hne b1 k2; have ⟨H_m2, H_l1, H_j1, H_hw1⟩ := hid4 m2 l1 j1 hw1; clear m2 l1 j1 hw1
  go_enter Tryd.func31, Tryd.ntmps31
  go_wp2_with fail
  clear d0 d1 d2 d3
  rw [H_hw1.out]
  go_loopw [5] (fun i wr => ∃ j : Nat, j ≤ n ∧ i = .int .i64 j ∧ Below w1.heap.size w1 wr ∧ ∀ i, i < j → l.getD i 0 = k.getD i 0) (fun i _ => n - (intOf i).toNat)
  case atStart => exact ⟨0, by omega, rfl, Below.refl _ _, fun i hi => by omega⟩
  case round =>
    obtain ⟨j, hj, rfl, hb, hp⟩ := hrel
    have c2 := (H_k2.out.below hb).at
    have e2 := (H_m2.out.below hb).at
    by_cases hlt : j < n
    · have g1 : (j : Int) < (n : Int) := by omega
      have g0 : (0 : Int) ≤ (j : Int) := by omega
      obtain ⟨b, off, rfl, hbl, hc⟩ := (H_l1.out.below hb) j (by rw [H_hln.out]; exact hlt)
      obtain ⟨b', off', rfl, hbl', hc'⟩ := (H_j1.out.below hb) j (by rw [H_hkn.out]; exact hlt)
      have hx := H_hne.out j
      generalize hX : l.getD j 0 = x at *
      generalize hY : k.getD j 0 = y at *
      have ⟨H_hp, H_hb, H_hx, H_hX, H_hY⟩ := hid5 hp hb hx hX hY; clear hp hb hx hX hY
      by_cases he : x = y
      · have e1 : (x != y) = false := by rw [bne_eq_false_iff_eq]; exact he
        have H_he := Lib.hid he; clear he
        go_wp2_with fail
        go_quiet (fail)
        go_wp2_with fail
        go_roundw
        case rel =>
          refine ⟨j + 1, by omega, by go_num, below_drewN H_hb.out _, fun i hi => ?_⟩
          rcases Nat.lt_or_ge i j with h | h
          · exact H_hp.out i h
          · obtain rfl : i = j := by omega
            rw [H_hX.out, H_hY.out]; exact H_he.out
        case measure => simp [intOf]; omega
      · have e1 : (x != y) = true := by rw [bne_iff_ne]; exact he
        have hF : R = false := H_hx.out he
        have ⟨H_he, H_hF⟩ := hid2 he hF; clear he hF
        go_wp2_with fail
        go_quiet (fail)
        go_wp2_with fail
        go_ret
        exact ⟨ret_bool H_hF.out.symm, below_drewN (H_b1.out.trans (H_hb.out.mono H_b1.out.size)) _⟩
    · have g1 : ¬ (j : Int) < (n : Int) := by omega
      have hF : R = true := H_hof.out (by rw [H_hln.out, H_hkn.out]) fun i hi => hp i (by rw [H_hln.out] at hi; omega)
      have ⟨H_hp, H_hb, H_hF⟩ := hid3 hp hb hF; clear hp hb hF
      go_wp2_with fail
      go_ret
      exact ⟨ret_bool H_hF.out.symm, H_b1.out.trans (H_hb.out.mono H_b1.out.size)⟩

theorem rsame_at (x y : Slt) (A : Option Addr) (n p : Nat) (hx : x.l.length = n) (B : Option Addr) (m q : Nat) (hy : y.l.length = m) (w : World) (hn : n ≤ 100000) (hm : m ≤ 100000) (hl : IntsAt w A .i64 x.l) (hk : IntsAt w B .i64 y.l) :
    Calls Tryd.prog 31 #[.agg #[.int .i64 x.s, .int .i64 x.c, .slice A n p, .int .u64 x.u], .agg #[.int .i64 y.s, .int .i64 y.c, .slice B m q, .int .u64 y.u]] w fun e w' => e = .returned (.bool (sameS x y)) ∧ Below w.heap.size w w' := by
  obtain ⟨xs, xc, l, xu⟩ := x
  obtain ⟨ys, yc, k, yu⟩ := y
  dsimp only at *
  by_cases h : xs = ys ∧ xc = yc ∧ xu = yu ∧ n = m
  · obtain ⟨rfl, rfl, rfl, rfl⟩ := h
    exact rsame_yes xs xc xu A n p l hx B q k hy w hn hl hk
  · exact rsame_no xs xc xu ys yc yu A n p l hx B m q k hy w hn hm h
end Go.Proofs.YtoehobaigfmnpaaDoor

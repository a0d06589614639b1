/- The reference of journals: Ints, Args, Says, Chain. -/
import Derived.Deep.Slices
import Derived.BigGuardPart
import Derived.Deep.CutRange
import Derived.RangeFuncNested
import Derived.RangeFuncBound
import Derived.RangeFuncCalls
import Derived.RangeFuncLeaves
import Derived.Shelf.Abstract
import Derived.Shelf.RegionOpen
import Derived.WalkKit
import Derived.OwnWalkIn
import Derived.TacticsInMore
import Derived.LoopNIn
import Derived.LoopIn
import Derived.BigGuardPartIn
import Derived.DeepKeys
import Derived.Deep.Cut
import Derived.Shelf.Strconv.Itoa0
import Derived.Shelf.Strconv.Itoa1
import Derived.Shelf.LaysM
import Derived.Shelf.Strconv.Itoa2
import Derived.Shelf.Strconv.Itoa3
import Derived.Ground.Names2Prog
import Derived.Shelf.Slices.Clone
import Derived.Test.YtmbmejclnagffaaDoorProg
import Derived.Test.YtmbmejclnagffaaDoorM1
import Derived.Test.YtmbmejclnagffaaDoorM2
import Derived.Test.YtmbmejclnagffaaDoorM3
import Derived.Test.YtmbmejclnagffaaDoorM4
import Derived.Test.YtmbmejclnagffaaDoorM5
import Derived.Test.YtmbmejclnagffaaDoorM6
import Derived.Test.YtmbmejclnagffaaDoorM7
import Derived.Test.YtmbmejclnagffaaDoorM8
import Derived.Test.YtmbmejclnagffaaDoorM9
import Derived.Test.YtmbmejclnagffaaDoorM10
import Derived.Test.YtmbmejclnagffaaDoorM11
import Derived.Test.YtmbmejclnagffaaDoorM12
import Derived.Test.YtmbmejclnagffaaDoorM13
import Derived.Test.YtmbmejclnagffaaDoorM14
import Derived.Test.YtmbmejclnagffaaDoorM15
import Derived.Test.YtmbmejclnagffaaDoorM16
import Derived.Test.YtmbmejclnagffaaDoorM17
import Derived.Test.YtmbmejclnagffaaDoorM18
import Derived.Test.YtmbmejclnagffaaDoorM19
import Derived.Test.YtmbmejclnagffaaDoorM20
import Derived.Test.YtmbmejclnagffaaDoorM21
import Derived.Test.YtmbmejclnagffaaDoorM22
import Derived.Test.YtmbmejclnagffaaDoorM23
import Derived.Test.YtmbmejclnagffaaDoorM24
import Derived.Test.YtmbmejclnagffaaDoorM25
import Derived.Test.YtmbmejclnagffaaDoorM26
import Derived.Test.YtmbmejclnagffaaDoorM27
import Derived.Test.YtmbmejclnagffaaDoorM28
import Derived.Test.YtmbmejclnagffaaDoorM29
import Derived.Test.YtmbmejclnagffaaDoorM30
import Derived.Test.YtmbmejclnagffaaDoorM31
import Derived.Test.YtmbmejclnagffaaDoorM32
import Derived.Test.YtmbmejclnagffaaDoorM33
import Derived.Test.YtmbmejclnagffaaDoorM34
import Derived.Test.YtmbmejclnagffaaDoorM35
import Derived.Test.YtmbmejclnagffaaDoorM36
import Derived.Test.YtmbmejclnagffaaDoorM37
import Derived.Test.YtmbmejclnagffaaDoorM38
import Derived.Test.YtmbmejclnagffaaDoorM39
import Derived.Test.YtmbmejclnagffaaDoorM40
import Derived.Test.YtmbmejclnagffaaDoorM41
import Derived.Test.YtmbmejclnagffaaDoorM42
import Derived.Test.YtmbmejclnagffaaDoorM43
import Derived.Test.YtmbmejclnagffaaDoorM44
import Derived.Test.YtmbmejclnagffaaDoorM45
import Derived.Test.YtmbmejclnagffaaDoorM46
import Derived.Test.YtmbmejclnagffaaDoorM47
import Derived.Test.YtmbmejclnagffaaDoorM48
import Derived.Test.YtmbmejclnagffaaDoorR1
set_option linter.unusedSimpArgs false
set_option linter.unusedVariables false
set_option maxRecDepth 100000
namespace Go.Proofs.YtmbmejclnagffaaDoor
open Go.RowKit
/-- the number of integers of a kind, -1 where there is none -/
def cntX (k : Int) : Int := if 1 ≤ k ∧ k ≤ 9 then cntI k else -1
theorem rCountX_any (k : Int) (w : World) : Calls Tryd.prog 32 #[.int .i64 k] w fun e w' => e = .returned (.int .i64 (cntX k)) ∧ Below w.heap.size w w' := by
  by_cases h : 1 ≤ k ∧ k ≤ 9
  · rw [cntX, if_pos h]; exact rCount_any k h w
  · rw [cntX, if_neg h]
    have b : Below w.heap.size w (w.alloc (.cells #[.int .i64 (-1), .int .i64 7, .int .i64 1, .int .i64 3, .int .i64 3, .int .i64 4, .int .i64 3, .int .i64 2, .int .i64 6, .int .i64 4] 3)) := (Below.refl _ _).alloc (Nat.le_refl _) _
    by_cases h1 : k < 1
    · have i1 : decide (k < 1) = true := decide_eq_true h1
      have ⟨H_b, H_h⟩ := hid2 b h; clear b h
      go_enter Tryd.func32, Tryd.ntmps32
      go_wp2_with fail
      go_ret
      exact ⟨rfl, H_b.out⟩
    · have i1 : decide (k < 1) = false := decide_eq_false h1
      have h2 : 10 ≤ k := by omega
      have i2 : decide ((10 : Int) ≤ k) = true := decide_eq_true h2
      have ⟨H_b, H_h⟩ := hid2 b h; clear b h
      go_enter Tryd.func32, Tryd.ntmps32
      go_wp2_with fail
      go_ret
      exact ⟨rfl, H_b.out⟩
theorem all_in {l : List Int} (h : ∀ j, j < l.length → argB (l.getD j 0) = true) : l.all argB = true := by
  rw [List.all_eq_true]
  intro x hx
  obtain ⟨i, hi, rfl⟩ := List.getElem_of_mem hx
  have := h i hi
  rw [List.getD_eq_getElem?_getD, List.getElem?_eq_getElem hi] at this
  exact this
theorem all_out {l : List Int} {j : Nat} (hj : j < l.length) (h : argB (l.getD j 0) = false) : l.all argB = false := by
  rw [Bool.eq_false_iff]
  intro hh
  rw [List.all_eq_true] at hh
  have := hh (l.getD j 0) (by rw [List.getD_eq_getElem?_getD, List.getElem?_eq_getElem hj]; exact List.getElem_mem hj)
  rw [h] at this; cases this
theorem msgB_x (m : Msg) : msgB m = (ptyB m.p && inJ m.s 1 5000 && argB m.t && decide ((m.a.length : Int) = cntX m.k) && m.a.all argB) := by
  have : (inJ m.k 1 9 && decide ((m.a.length : Int) = cntI m.k)) = decide ((m.a.length : Int) = cntX m.k) := by
    rw [Bool.eq_iff_iff, Bool.and_eq_true, inJ_iff, decide_eq_true_eq, decide_eq_true_eq]
    unfold cntX
    split
    · rename_i h; exact ⟨fun h2 => h2.2, fun h2 => ⟨h, h2⟩⟩
    · rename_i h; exact ⟨fun h2 => absurd h2.1 h, fun h2 => by omega⟩
  rw [msgB, ← this]
  simp only [Bool.and_assoc]
set_option maxRecDepth 100000 in
set_option maxHeartbeats 16000000 in
theorem rValid_any (m : Msg) (hf : MFit m) (w : World) (hl : IntsAt w m.A .i64 m.a) :
    Calls Tryd.prog 45 #[.agg m.cells.toArray] w fun e w' => e = .returned (.bool (msgB m)) ∧ Below w.heap.size w w' := by
  obtain ⟨n, hln⟩ : ∃ n, m.a.length = n := ⟨_, rfl⟩
  have hn9 := hf.n
  have e0 : m.cells.toArray = #[.int .i64 m.p, .int .i64 m.s, .int .i64 m.t, .int .i64 m.k, .slice m.A n m.c] := by rw [← hln]; rfl
  have eM := msgB_x m
  have hi := @all_in m.a
  have ho := fun j => @all_out m.a j
  have q1 := fun W => rParty_any m.p W
  have q2 := fun W => rCountX_any m.k W
  have eS : inJ m.s 1 5000 = (decide (1 ≤ m.s) && decide (m.s ≤ 5000)) := rfl
  have eT : argB m.t = (decide (0 ≤ m.t) && decide (m.t ≤ 1000000000)) := rfl
  rw [e0]
  rw [hln] at hn9 eM hi ho
  obtain ⟨w0, hw0⟩ : ∃ W, w.alloc (.cells #[.int .i64 m.p, .int .i64 m.s, .int .i64 m.t, .int .i64 m.k, .slice m.A n m.c] 47) = W := ⟨_, rfl⟩
  have bb0 : Below w.heap.size w w0 := by rw [← hw0]; exact (Below.refl _ _).alloc (Nat.le_refl _) _
  have k0 : Blk w0 w.heap.size #[.int .i64 m.p, .int .i64 m.s, .int .i64 m.t, .int .i64 m.k, .slice m.A n m.c] := by rw [← hw0]; exact blk_new rfl
  have l0 := hl.below bb0
  generalize msgB m = MB at *
  generalize ptyB m.p = PB at *
  generalize inJ m.s 1 5000 = SB at *
  generalize argB m.t = TB at *
  generalize cntX m.k = CX at *
  generalize m.p = mp at *
  generalize m.s = ms at *
  generalize m.t = mt at *
  generalize m.k = mk at *
  generalize m.A = mA at *
  generalize m.c = mc at *
  generalize m.a = ma at *
  clear e0
  have ⟨H_hw0, H_bb0, H_k0, H_l0, H_hl, H_hln, H_eM, H_hi⟩ := hid8 hw0 bb0 k0 l0 hl hln eM hi; clear hw0 bb0 k0 l0 hl hln eM hi; have ⟨H_ho, H_q1, H_q2, H_eS, H_eT, H_hf⟩ := hid6 ho q1 q2 eS eT hf; clear ho q1 q2 eS eT hf
  go_enter Tryd.func45, Tryd.ntmps45
  go_upto_region 1 with (fail)
  rw [H_hw0.out]
  have y0 := (H_k0.out 0 _ rfl).at
  have y1 := (H_k0.out 1 _ rfl).at
  have y2 := (H_k0.out 2 _ rfl).at
  have y3 := (H_k0.out 3 _ rfl).at
  have y4 := (H_k0.out 4 _ rfl).at
  have ly := (H_k0.out 0 _ rfl).lt
  cases PB with
  | false =>
    refine wp_region_held_drew (S := (fun W => (∀ b o, b < w0.heap.size → W.cell? ⟨b, o, none⟩ = w0.cell? ⟨b, o, none⟩) ∧ Below w0.heap.size w0 W)) (by kernel_rfl) ?_ (fun hHeld => ?_)
    · (try dsimp only); (first | (refine ext_mk ?_; exact belt))
    refine take_at (i := 0) (some 4) rfl rfl (by kernel_rfl) (fun _ _ _ h => h) (by rfl) (v := ?_) ?_ (by assumption) ?_
    rotate_left
    · intro W hSw; (try dsimp only at hSw); go_simp; (try with_reducible rfl)
    (try simp only [apz])
    refine take_at (i := 1) (some 5) rfl rfl (by kernel_rfl) (fun _ _ _ h => h) (by rfl) (v := ?_) ?_ (by assumption) ?_
    rotate_left
    · intro W hSw; (try dsimp only at hSw); go_simp; (try with_reducible rfl)
    (try simp only [apz])
    refine wpAnyH_ready (rs := [2]) (by kernel_rfl) (by simp) ?_
    refine AllReadyH.cons rfl (fun K hK => ?_) AllReadyH.nil
    go_simp
    (first | (go_at_call 28; (with_reducible refine (H_q1.out _).mono ?_); rintro e w_ ⟨rfl, hw_⟩; subst hw_) | (go_at_call 32; (with_reducible refine (H_q2.out _).mono ?_); rintro e w5 ⟨rfl, hbw5⟩; have gw5 := Below.trans (And.right (by assumption : _ ∧ Below w0.heap.size w0 _)) (hbw5.mono (Below.size (And.right (by assumption : _ ∧ Below w0.heap.size w0 _)))); have gsw5 := gw5.size; have hcf := bcell hbw5; have hcw5 := hcf.1; have hfw5 := hcf.2; have hsw5 := hbw5.size; (try simp only [World.size_alloc, World.heap_drewN, heap_drew] at hsw5); clear hbw5 hcf; (try have hzw5 : w0.heap.size < w5.heap.size := by omega)))
    refine hK.out _ _ ?_ (fun hHeld => ?_)
    · (try dsimp only); (first | (refine ext_mk ?_; exact belt))
    clear hK K
    (try simp only [apz])
    refine take_at (i := 3) (some 7) rfl rfl (by kernel_rfl) (fun _ _ _ h => h) (by rfl) (v := ?_) ?_ (by assumption) ?_
    rotate_left
    · intro W hSw; (try dsimp only at hSw); go_simp; (try with_reducible rfl)
    (try simp only [apz])
    refine take_at (i := 4) (some 8) rfl rfl (by kernel_rfl) (fun _ _ _ h => h) (by rfl) (v := ?_) ?_ (by assumption) ?_
    rotate_left
    · intro W hSw; (try dsimp only at hSw); go_simp; (try with_reducible rfl)
    (try simp only [apz])
    refine skip_at (i := 5) (some 9) rfl rfl (by kernel_rfl) (fun _ _ _ h => h) (by rfl) (by assumption) ?_
    (try simp only [apz])
    refine skip_at (i := 6) (some 10) rfl rfl (by kernel_rfl) (fun _ _ _ h => h) (by rfl) (by assumption) ?_
    (try simp only [apz])
    refine skip_at (i := 7) (some 11) rfl rfl (by kernel_rfl) (fun _ _ _ h => h) (by rfl) (by assumption) ?_
    (try simp only [apz])
    refine take_at (i := 8) (some 12) rfl rfl (by kernel_rfl) (fun _ _ _ h => h) (by rfl) (v := ?_) ?_ (by assumption) ?_
    rotate_left
    · intro W hSw; (try dsimp only at hSw); go_simp; (try with_reducible rfl)
    (try simp only [apz])
    refine take_at (i := 9) (some 13) rfl rfl (by kernel_rfl) (fun _ _ _ h => h) (by rfl) (v := ?_) ?_ (by assumption) ?_
    rotate_left
    · intro W hSw; (try dsimp only at hSw); go_simp; (try with_reducible rfl)
    (try simp only [apz])
    refine skip_at (i := 10) (some 14) rfl rfl (by kernel_rfl) (fun _ _ _ h => h) (by rfl) (by assumption) ?_
    (try simp only [apz])
    refine skip_at (i := 11) (some 15) rfl rfl (by kernel_rfl) (fun _ _ _ h => h) (by rfl) (by assumption) ?_
    (try simp only [apz])
    refine skip_at (i := 12) (some 16) rfl rfl (by kernel_rfl) (fun _ _ _ h => h) (by rfl) (by assumption) ?_
    (try simp only [apz])
    refine take_at (i := 13) (some 17) rfl rfl (by kernel_rfl) (fun _ _ _ h => h) (by rfl) (v := ?_) ?_ (by assumption) ?_
    rotate_left
    · intro W hSw; (try dsimp only at hSw); go_simp; (try with_reducible rfl)
    (try simp only [apz])
    refine take_at (i := 14) (some 18) rfl rfl (by kernel_rfl) (fun _ _ _ h => h) (by rfl) (v := ?_) ?_ (by assumption) ?_
    rotate_left
    · intro W hSw; (try dsimp only at hSw); go_simp; (try with_reducible rfl)
    (try simp only [apz])
    refine skip_at (i := 15) (some 19) rfl rfl (by kernel_rfl) (fun _ _ _ h => h) (by rfl) (by assumption) ?_
    (try simp only [apz])
    refine skip_at (i := 16) (some 20) rfl rfl (by kernel_rfl) (fun _ _ _ h => h) (by rfl) (by assumption) ?_
    (try simp only [apz])
    refine skip_at (i := 17) (some 21) rfl rfl (by kernel_rfl) (fun _ _ _ h => h) (by rfl) (by assumption) ?_
    (try simp only [apz])
    refine take_at (i := 18) (some 22) rfl rfl (by kernel_rfl) (fun _ _ _ h => h) (by rfl) (v := ?_) ?_ (by assumption) ?_
    rotate_left
    · intro W hSw; (try dsimp only at hSw); go_simp; (try with_reducible rfl)
    (try simp only [apz])
    refine take_at (i := 19) (some 23) rfl rfl (by kernel_rfl) (fun _ _ _ h => h) (by rfl) (v := ?_) ?_ (by assumption) ?_
    rotate_left
    · intro W hSw; (try dsimp only at hSw); go_simp; (try with_reducible rfl)
    (try simp only [apz])
    refine skip_at (i := 20) (some 24) rfl rfl (by kernel_rfl) (fun _ _ _ h => h) (by rfl) (by assumption) ?_
    (try simp only [apz])
    refine skip_at (i := 21) (some 25) rfl rfl (by kernel_rfl) (fun _ _ _ h => h) (by rfl) (by assumption) ?_
    (try simp only [apz])
    refine skip_at (i := 22) (some 26) rfl rfl (by kernel_rfl) (fun _ _ _ h => h) (by rfl) (by assumption) ?_
    (try simp only [apz])
    refine take_at (i := 23) (some 27) rfl rfl (by kernel_rfl) (fun _ _ _ h => h) (by rfl) (v := ?_) ?_ (by assumption) ?_
    rotate_left
    · intro W hSw; (try dsimp only at hSw); go_simp; (try with_reducible rfl)
    (try simp only [apz])
    refine take_at (i := 24) (some 28) rfl rfl (by kernel_rfl) (fun _ _ _ h => h) (by rfl) (v := ?_) ?_ (by assumption) ?_
    rotate_left
    · intro W hSw; (try dsimp only at hSw); go_simp; (try with_reducible rfl)
    (try simp only [apz])
    refine skip_at (i := 25) (some 29) rfl rfl (by kernel_rfl) (fun _ _ _ h => h) (by rfl) (by assumption) ?_
    (try simp only [apz])
    refine skip_at (i := 26) (some 30) rfl rfl (by kernel_rfl) (fun _ _ _ h => h) (by rfl) (by assumption) ?_
    (try simp only [apz])
    refine skip_at (i := 27) (some 31) rfl rfl (by kernel_rfl) (fun _ _ _ h => h) (by rfl) (by assumption) ?_
    (try simp only [apz])
    refine skip_at (i := 28) (some 32) rfl rfl (by kernel_rfl) (fun _ _ _ h => h) (by rfl) (by assumption) ?_
    (try simp only [apz])
    refine skip_at (i := 29) (some 33) rfl rfl (by kernel_rfl) (fun _ _ _ h => h) (by rfl) (by assumption) ?_
    (try simp only [apz])
    refine skip_at (i := 30) (some 34) rfl rfl (by kernel_rfl) (fun _ _ _ h => h) (by rfl) (by assumption) ?_
    (try simp only [apz])
    refine skip_at (i := 31) (some 35) rfl rfl (by kernel_rfl) (fun _ _ _ h => h) (by rfl) (by assumption) ?_
    (try simp only [apz])
    refine take_at (i := 32) (some 36) rfl rfl (by kernel_rfl) (fun _ _ _ h => h) (by rfl) (v := ?_) ?_ (by assumption) ?_
    rotate_left
    · intro W hSw; (try dsimp only at hSw); go_simp; (try with_reducible rfl)
    (try simp only [apz])
    refine wpAnyH_done (by kernel_rfl) ?_ _
    have gF : Below w0.heap.size w0 _ := And.right (by assumption)
    have gG := H_bb0.out.trans (gF.mono H_bb0.out.size)
    have fin : MB = false := by rw [H_eM.out]; simp
    have ⟨H_gF, H_gG, H_fin⟩ := hid3 gF gG fin; clear gF gG fin
    go_wp2_with fail
    go_ret
    exact ⟨ret_bool H_fin.out.symm, H_gG.out⟩
  | true =>
  by_cases c1 : ms < 1
  · have d1 : decide (ms < 1) = true := decide_eq_true c1
    have z1 : SB = false := by rw [H_eS.out, decide_eq_false (by omega : ¬ 1 ≤ ms)]; rfl
    subst z1
    refine wp_region_held_drew (S := (fun W => (∀ b o, b < w0.heap.size → W.cell? ⟨b, o, none⟩ = w0.cell? ⟨b, o, none⟩) ∧ Below w0.heap.size w0 W)) (by kernel_rfl) ?_ (fun hHeld => ?_)
    · (try dsimp only); (first | (refine ext_mk ?_; exact belt))
    refine take_at (i := 0) (some 4) rfl rfl (by kernel_rfl) (fun _ _ _ h => h) (by rfl) (v := ?_) ?_ (by assumption) ?_
    rotate_left
    · intro W hSw; (try dsimp only at hSw); go_simp; (try with_reducible rfl)
    (try simp only [apz])
    refine take_at (i := 1) (some 5) rfl rfl (by kernel_rfl) (fun _ _ _ h => h) (by rfl) (v := ?_) ?_ (by assumption) ?_
    rotate_left
    · intro W hSw; (try dsimp only at hSw); go_simp; (try with_reducible rfl)
    (try simp only [apz])
    refine wpAnyH_ready (rs := [2]) (by kernel_rfl) (by simp) ?_
    refine AllReadyH.cons rfl (fun K hK => ?_) AllReadyH.nil
    go_simp
    (first | (go_at_call 28; (with_reducible refine (H_q1.out _).mono ?_); rintro e w_ ⟨rfl, hw_⟩; subst hw_) | (go_at_call 32; (with_reducible refine (H_q2.out _).mono ?_); rintro e w5 ⟨rfl, hbw5⟩; have gw5 := Below.trans (And.right (by assumption : _ ∧ Below w0.heap.size w0 _)) (hbw5.mono (Below.size (And.right (by assumption : _ ∧ Below w0.heap.size w0 _)))); have gsw5 := gw5.size; have hcf := bcell hbw5; have hcw5 := hcf.1; have hfw5 := hcf.2; have hsw5 := hbw5.size; (try simp only [World.size_alloc, World.heap_drewN, heap_drew] at hsw5); clear hbw5 hcf; (try have hzw5 : w0.heap.size < w5.heap.size := by omega)))
    refine hK.out _ _ ?_ (fun hHeld => ?_)
    · (try dsimp only); (first | (refine ext_mk ?_; exact belt))
    clear hK K
    (try simp only [apz])
    refine take_at (i := 3) (some 7) rfl rfl (by kernel_rfl) (fun _ _ _ h => h) (by rfl) (v := ?_) ?_ (by assumption) ?_
    rotate_left
    · intro W hSw; (try dsimp only at hSw); go_simp; (try with_reducible rfl)
    (try simp only [apz])
    refine take_at (i := 4) (some 8) rfl rfl (by kernel_rfl) (fun _ _ _ h => h) (by rfl) (v := ?_) ?_ (by assumption) ?_
    rotate_left
    · intro W hSw; (try dsimp only at hSw); go_simp; (try with_reducible rfl)
    (try simp only [apz])
    refine take_at (i := 5) (some 9) rfl rfl (by kernel_rfl) (fun _ _ _ h => h) (by rfl) (v := ?_) ?_ (by assumption) ?_
    rotate_left
    · intro W hSw; (try dsimp only at hSw); go_simp; (try with_reducible rfl)
    (try simp only [apz])
    refine take_at (i := 6) (some 10) rfl rfl (by kernel_rfl) (fun _ _ _ h => h) (by rfl) (v := ?_) ?_ (by assumption) ?_
    rotate_left
    · intro W hSw; (try dsimp only at hSw); go_simp; (try with_reducible rfl)
    (try simp only [apz])
    refine take_at (i := 7) (some 11) rfl rfl (by kernel_rfl) (fun _ _ _ h => h) (by rfl) (v := ?_) ?_ (by assumption) ?_
    rotate_left
    · intro W hSw; (try dsimp only at hSw); go_simp; (try with_reducible rfl)
    (try simp only [apz])
    refine take_at (i := 8) (some 12) rfl rfl (by kernel_rfl) (fun _ _ _ h => h) (by rfl) (v := ?_) ?_ (by assumption) ?_
    rotate_left
    · intro W hSw; (try dsimp only at hSw); go_simp; (try with_reducible rfl)
    (try simp only [apz])
    refine take_at (i := 9) (some 13) rfl rfl (by kernel_rfl) (fun _ _ _ h => h) (by rfl) (v := ?_) ?_ (by assumption) ?_
    rotate_left
    · intro W hSw; (try dsimp only at hSw); go_simp; (try with_reducible rfl)
    (try simp only [apz])
    refine skip_at (i := 10) (some 14) rfl rfl (by kernel_rfl) (fun _ _ _ h => h) (by rfl) (by assumption) ?_
    (try simp only [apz])
    refine skip_at (i := 11) (some 15) rfl rfl (by kernel_rfl) (fun _ _ _ h => h) (by rfl) (by assumption) ?_
    (try simp only [apz])
    refine skip_at (i := 12) (some 16) rfl rfl (by kernel_rfl) (fun _ _ _ h => h) (by rfl) (by assumption) ?_
    (try simp only [apz])
    refine take_at (i := 13) (some 17) rfl rfl (by kernel_rfl) (fun _ _ _ h => h) (by rfl) (v := ?_) ?_ (by assumption) ?_
    rotate_left
    · intro W hSw; (try dsimp only at hSw); go_simp; (try with_reducible rfl)
    (try simp only [apz])
    refine take_at (i := 14) (some 18) rfl rfl (by kernel_rfl) (fun _ _ _ h => h) (by rfl) (v := ?_) ?_ (by assumption) ?_
    rotate_left
    · intro W hSw; (try dsimp only at hSw); go_simp; (try with_reducible rfl)
    (try simp only [apz])
    refine skip_at (i := 15) (some 19) rfl rfl (by kernel_rfl) (fun _ _ _ h => h) (by rfl) (by assumption) ?_
    (try simp only [apz])
    refine skip_at (i := 16) (some 20) rfl rfl (by kernel_rfl) (fun _ _ _ h => h) (by rfl) (by assumption) ?_
    (try simp only [apz])
    refine skip_at (i := 17) (some 21) rfl rfl (by kernel_rfl) (fun _ _ _ h => h) (by rfl) (by assumption) ?_
    (try simp only [apz])
    refine take_at (i := 18) (some 22) rfl rfl (by kernel_rfl) (fun _ _ _ h => h) (by rfl) (v := ?_) ?_ (by assumption) ?_
    rotate_left
    · intro W hSw; (try dsimp only at hSw); go_simp; (try with_reducible rfl)
    (try simp only [apz])
    refine take_at (i := 19) (some 23) rfl rfl (by kernel_rfl) (fun _ _ _ h => h) (by rfl) (v := ?_) ?_ (by assumption) ?_
    rotate_left
    · intro W hSw; (try dsimp only at hSw); go_simp; (try with_reducible rfl)
    (try simp only [apz])
    refine skip_at (i := 20) (some 24) rfl rfl (by kernel_rfl) (fun _ _ _ h => h) (by rfl) (by assumption) ?_
    (try simp only [apz])
    refine skip_at (i := 21) (some 25) rfl rfl (by kernel_rfl) (fun _ _ _ h => h) (by rfl) (by assumption) ?_
    (try simp only [apz])
    refine skip_at (i := 22) (some 26) rfl rfl (by kernel_rfl) (fun _ _ _ h => h) (by rfl) (by assumption) ?_
    (try simp only [apz])
    refine take_at (i := 23) (some 27) rfl rfl (by kernel_rfl) (fun _ _ _ h => h) (by rfl) (v := ?_) ?_ (by assumption) ?_
    rotate_left
    · intro W hSw; (try dsimp only at hSw); go_simp; (try with_reducible rfl)
    (try simp only [apz])
    refine take_at (i := 24) (some 28) rfl rfl (by kernel_rfl) (fun _ _ _ h => h) (by rfl) (v := ?_) ?_ (by assumption) ?_
    rotate_left
    · intro W hSw; (try dsimp only at hSw); go_simp; (try with_reducible rfl)
    (try simp only [apz])
    refine skip_at (i := 25) (some 29) rfl rfl (by kernel_rfl) (fun _ _ _ h => h) (by rfl) (by assumption) ?_
    (try simp only [apz])
    refine skip_at (i := 26) (some 30) rfl rfl (by kernel_rfl) (fun _ _ _ h => h) (by rfl) (by assumption) ?_
    (try simp only [apz])
    refine skip_at (i := 27) (some 31) rfl rfl (by kernel_rfl) (fun _ _ _ h => h) (by rfl) (by assumption) ?_
    (try simp only [apz])
    refine skip_at (i := 28) (some 32) rfl rfl (by kernel_rfl) (fun _ _ _ h => h) (by rfl) (by assumption) ?_
    (try simp only [apz])
    refine skip_at (i := 29) (some 33) rfl rfl (by kernel_rfl) (fun _ _ _ h => h) (by rfl) (by assumption) ?_
    (try simp only [apz])
    refine skip_at (i := 30) (some 34) rfl rfl (by kernel_rfl) (fun _ _ _ h => h) (by rfl) (by assumption) ?_
    (try simp only [apz])
    refine skip_at (i := 31) (some 35) rfl rfl (by kernel_rfl) (fun _ _ _ h => h) (by rfl) (by assumption) ?_
    (try simp only [apz])
    refine take_at (i := 32) (some 36) rfl rfl (by kernel_rfl) (fun _ _ _ h => h) (by rfl) (v := ?_) ?_ (by assumption) ?_
    rotate_left
    · intro W hSw; (try dsimp only at hSw); go_simp; (try with_reducible rfl)
    (try simp only [apz])
    refine wpAnyH_done (by kernel_rfl) ?_ _
    have gF : Below w0.heap.size w0 _ := And.right (by assumption)
    have gG := H_bb0.out.trans (gF.mono H_bb0.out.size)
    have fin : MB = false := by rw [H_eM.out]; simp
    have ⟨H_gF, H_gG, H_fin⟩ := hid3 gF gG fin; clear gF gG fin
    go_wp2_with fail
    go_ret
    exact ⟨ret_bool H_fin.out.symm, H_gG.out⟩
  have d1 : decide (ms < 1) = false := decide_eq_false c1
  by_cases c2 : 5000 < ms
  · have d2 : decide (5000 < ms) = true := decide_eq_true c2
    have z1 : SB = false := by rw [H_eS.out, decide_eq_false (by omega : ¬ ms ≤ 5000)]; simp
    subst z1
    refine wp_region_held_drew (S := (fun W => (∀ b o, b < w0.heap.size → W.cell? ⟨b, o, none⟩ = w0.cell? ⟨b, o, none⟩) ∧ Below w0.heap.size w0 W)) (by kernel_rfl) ?_ (fun hHeld => ?_)
    · (try dsimp only); (first | (refine ext_mk ?_; exact belt))
    refine take_at (i := 0) (some 4) rfl rfl (by kernel_rfl) (fun _ _ _ h => h) (by rfl) (v := ?_) ?_ (by assumption) ?_
    rotate_left
    · intro W hSw; (try dsimp only at hSw); go_simp; (try with_reducible rfl)
    (try simp only [apz])
    refine take_at (i := 1) (some 5) rfl rfl (by kernel_rfl) (fun _ _ _ h => h) (by rfl) (v := ?_) ?_ (by assumption) ?_
    rotate_left
    · intro W hSw; (try dsimp only at hSw); go_simp; (try with_reducible rfl)
    (try simp only [apz])
    refine wpAnyH_ready (rs := [2]) (by kernel_rfl) (by simp) ?_
    refine AllReadyH.cons rfl (fun K hK => ?_) AllReadyH.nil
    go_simp
    (first | (go_at_call 28; (with_reducible refine (H_q1.out _).mono ?_); rintro e w_ ⟨rfl, hw_⟩; subst hw_) | (go_at_call 32; (with_reducible refine (H_q2.out _).mono ?_); rintro e w5 ⟨rfl, hbw5⟩; have gw5 := Below.trans (And.right (by assumption : _ ∧ Below w0.heap.size w0 _)) (hbw5.mono (Below.size (And.right (by assumption : _ ∧ Below w0.heap.size w0 _)))); have gsw5 := gw5.size; have hcf := bcell hbw5; have hcw5 := hcf.1; have hfw5 := hcf.2; have hsw5 := hbw5.size; (try simp only [World.size_alloc, World.heap_drewN, heap_drew] at hsw5); clear hbw5 hcf; (try have hzw5 : w0.heap.size < w5.heap.size := by omega)))
    refine hK.out _ _ ?_ (fun hHeld => ?_)
    · (try dsimp only); (first | (refine ext_mk ?_; exact belt))
    clear hK K
    (try simp only [apz])
    refine take_at (i := 3) (some 7) rfl rfl (by kernel_rfl) (fun _ _ _ h => h) (by rfl) (v := ?_) ?_ (by assumption) ?_
    rotate_left
    · intro W hSw; (try dsimp only at hSw); go_simp; (try with_reducible rfl)
    (try simp only [apz])
    refine take_at (i := 4) (some 8) rfl rfl (by kernel_rfl) (fun _ _ _ h => h) (by rfl) (v := ?_) ?_ (by assumption) ?_
    rotate_left
    · intro W hSw; (try dsimp only at hSw); go_simp; (try with_reducible rfl)
    (try simp only [apz])
    refine take_at (i := 5) (some 9) rfl rfl (by kernel_rfl) (fun _ _ _ h => h) (by rfl) (v := ?_) ?_ (by assumption) ?_
    rotate_left
    · intro W hSw; (try dsimp only at hSw); go_simp; (try with_reducible rfl)
    (try simp only [apz])
    refine take_at (i := 6) (some 10) rfl rfl (by kernel_rfl) (fun _ _ _ h => h) (by rfl) (v := ?_) ?_ (by assumption) ?_
    rotate_left
    · intro W hSw; (try dsimp only at hSw); go_simp; (try with_reducible rfl)
    (try simp only [apz])
    refine take_at (i := 7) (some 11) rfl rfl (by kernel_rfl) (fun _ _ _ h => h) (by rfl) (v := ?_) ?_ (by assumption) ?_
    rotate_left
    · intro W hSw; (try dsimp only at hSw); go_simp; (try with_reducible rfl)
    (try simp only [apz])
    refine take_at (i := 8) (some 12) rfl rfl (by kernel_rfl) (fun _ _ _ h => h) (by rfl) (v := ?_) ?_ (by assumption) ?_
    rotate_left
    · intro W hSw; (try dsimp only at hSw); go_simp; (try with_reducible rfl)
    (try simp only [apz])
    refine take_at (i := 9) (some 13) rfl rfl (by kernel_rfl) (fun _ _ _ h => h) (by rfl) (v := ?_) ?_ (by assumption) ?_
    rotate_left
    · intro W hSw; (try dsimp only at hSw); go_simp; (try with_reducible rfl)
    (try simp only [apz])
    refine take_at (i := 10) (some 14) rfl rfl (by kernel_rfl) (fun _ _ _ h => h) (by rfl) (v := ?_) ?_ (by assumption) ?_
    rotate_left
    · intro W hSw; (try dsimp only at hSw); go_simp; (try with_reducible rfl)
    (try simp only [apz])
    refine take_at (i := 11) (some 15) rfl rfl (by kernel_rfl) (fun _ _ _ h => h) (by rfl) (v := ?_) ?_ (by assumption) ?_
    rotate_left
    · intro W hSw; (try dsimp only at hSw); go_simp; (try with_reducible rfl)
    (try simp only [apz])
    refine take_at (i := 12) (some 16) rfl rfl (by kernel_rfl) (fun _ _ _ h => h) (by rfl) (v := ?_) ?_ (by assumption) ?_
    rotate_left
    · intro W hSw; (try dsimp only at hSw); go_simp; (try with_reducible rfl)
    (try simp only [apz])
    refine take_at (i := 13) (some 17) rfl rfl (by kernel_rfl) (fun _ _ _ h => h) (by rfl) (v := ?_) ?_ (by assumption) ?_
    rotate_left
    · intro W hSw; (try dsimp only at hSw); go_simp; (try with_reducible rfl)
    (try simp only [apz])
    refine take_at (i := 14) (some 18) rfl rfl (by kernel_rfl) (fun _ _ _ h => h) (by rfl) (v := ?_) ?_ (by assumption) ?_
    rotate_left
    · intro W hSw; (try dsimp only at hSw); go_simp; (try with_reducible rfl)
    (try simp only [apz])
    refine skip_at (i := 15) (some 19) rfl rfl (by kernel_rfl) (fun _ _ _ h => h) (by rfl) (by assumption) ?_
    (try simp only [apz])
    refine skip_at (i := 16) (some 20) rfl rfl (by kernel_rfl) (fun _ _ _ h => h) (by rfl) (by assumption) ?_
    (try simp only [apz])
    refine skip_at (i := 17) (some 21) rfl rfl (by kernel_rfl) (fun _ _ _ h => h) (by rfl) (by assumption) ?_
    (try simp only [apz])
    refine take_at (i := 18) (some 22) rfl rfl (by kernel_rfl) (fun _ _ _ h => h) (by rfl) (v := ?_) ?_ (by assumption) ?_
    rotate_left
    · intro W hSw; (try dsimp only at hSw); go_simp; (try with_reducible rfl)
    (try simp only [apz])
    refine take_at (i := 19) (some 23) rfl rfl (by kernel_rfl) (fun _ _ _ h => h) (by rfl) (v := ?_) ?_ (by assumption) ?_
    rotate_left
    · intro W hSw; (try dsimp only at hSw); go_simp; (try with_reducible rfl)
    (try simp only [apz])
    refine skip_at (i := 20) (some 24) rfl rfl (by kernel_rfl) (fun _ _ _ h => h) (by rfl) (by assumption) ?_
    (try simp only [apz])
    refine skip_at (i := 21) (some 25) rfl rfl (by kernel_rfl) (fun _ _ _ h => h) (by rfl) (by assumption) ?_
    (try simp only [apz])
    refine skip_at (i := 22) (some 26) rfl rfl (by kernel_rfl) (fun _ _ _ h => h) (by rfl) (by assumption) ?_
    (try simp only [apz])
    refine take_at (i := 23) (some 27) rfl rfl (by kernel_rfl) (fun _ _ _ h => h) (by rfl) (v := ?_) ?_ (by assumption) ?_
    rotate_left
    · intro W hSw; (try dsimp only at hSw); go_simp; (try with_reducible rfl)
    (try simp only [apz])
    refine take_at (i := 24) (some 28) rfl rfl (by kernel_rfl) (fun _ _ _ h => h) (by rfl) (v := ?_) ?_ (by assumption) ?_
    rotate_left
    · intro W hSw; (try dsimp only at hSw); go_simp; (try with_reducible rfl)
    (try simp only [apz])
    refine skip_at (i := 25) (some 29) rfl rfl (by kernel_rfl) (fun _ _ _ h => h) (by rfl) (by assumption) ?_
    (try simp only [apz])
    refine skip_at (i := 26) (some 30) rfl rfl (by kernel_rfl) (fun _ _ _ h => h) (by rfl) (by assumption) ?_
    (try simp only [apz])
    refine skip_at (i := 27) (some 31) rfl rfl (by kernel_rfl) (fun _ _ _ h => h) (by rfl) (by assumption) ?_
    (try simp only [apz])
    refine skip_at (i := 28) (some 32) rfl rfl (by kernel_rfl) (fun _ _ _ h => h) (by rfl) (by assumption) ?_
    (try simp only [apz])
    refine skip_at (i := 29) (some 33) rfl rfl (by kernel_rfl) (fun _ _ _ h => h) (by rfl) (by assumption) ?_
    (try simp only [apz])
    refine skip_at (i := 30) (some 34) rfl rfl (by kernel_rfl) (fun _ _ _ h => h) (by rfl) (by assumption) ?_
    (try simp only [apz])
    refine skip_at (i := 31) (some 35) rfl rfl (by kernel_rfl) (fun _ _ _ h => h) (by rfl) (by assumption) ?_
    (try simp only [apz])
    refine take_at (i := 32) (some 36) rfl rfl (by kernel_rfl) (fun _ _ _ h => h) (by rfl) (v := ?_) ?_ (by assumption) ?_
    rotate_left
    · intro W hSw; (try dsimp only at hSw); go_simp; (try with_reducible rfl)
    (try simp only [apz])
    refine wpAnyH_done (by kernel_rfl) ?_ _
    have gF : Below w0.heap.size w0 _ := And.right (by assumption)
    have gG := H_bb0.out.trans (gF.mono H_bb0.out.size)
    have fin : MB = false := by rw [H_eM.out]; simp
    have ⟨H_gF, H_gG, H_fin⟩ := hid3 gF gG fin; clear gF gG fin
    go_wp2_with fail
    go_ret
    exact ⟨ret_bool H_fin.out.symm, H_gG.out⟩
  have d2 : decide (5000 < ms) = false := decide_eq_false c2
  have z1 : SB = true := by rw [H_eS.out, decide_eq_true (by omega : 1 ≤ ms), decide_eq_true (by omega : ms ≤ 5000)]; rfl
  subst z1
  by_cases c3 : mt < 0
  · have d3 : decide (mt < 0) = true := decide_eq_true c3
    have z2 : TB = false := by rw [H_eT.out, decide_eq_false (by omega : ¬ 0 ≤ mt)]; rfl
    subst z2
    refine wp_region_held_drew (S := (fun W => (∀ b o, b < w0.heap.size → W.cell? ⟨b, o, none⟩ = w0.cell? ⟨b, o, none⟩) ∧ Below w0.heap.size w0 W)) (by kernel_rfl) ?_ (fun hHeld => ?_)
    · (try dsimp only); (first | (refine ext_mk ?_; exact belt))
    refine take_at (i := 0) (some 4) rfl rfl (by kernel_rfl) (fun _ _ _ h => h) (by rfl) (v := ?_) ?_ (by assumption) ?_
    rotate_left
    · intro W hSw; (try dsimp only at hSw); go_simp; (try with_reducible rfl)
    (try simp only [apz])
    refine take_at (i := 1) (some 5) rfl rfl (by kernel_rfl) (fun _ _ _ h => h) (by rfl) (v := ?_) ?_ (by assumption) ?_
    rotate_left
    · intro W hSw; (try dsimp only at hSw); go_simp; (try with_reducible rfl)
    (try simp only [apz])
    refine wpAnyH_ready (rs := [2]) (by kernel_rfl) (by simp) ?_
    refine AllReadyH.cons rfl (fun K hK => ?_) AllReadyH.nil
    go_simp
    (first | (go_at_call 28; (with_reducible refine (H_q1.out _).mono ?_); rintro e w_ ⟨rfl, hw_⟩; subst hw_) | (go_at_call 32; (with_reducible refine (H_q2.out _).mono ?_); rintro e w5 ⟨rfl, hbw5⟩; have gw5 := Below.trans (And.right (by assumption : _ ∧ Below w0.heap.size w0 _)) (hbw5.mono (Below.size (And.right (by assumption : _ ∧ Below w0.heap.size w0 _)))); have gsw5 := gw5.size; have hcf := bcell hbw5; have hcw5 := hcf.1; have hfw5 := hcf.2; have hsw5 := hbw5.size; (try simp only [World.size_alloc, World.heap_drewN, heap_drew] at hsw5); clear hbw5 hcf; (try have hzw5 : w0.heap.size < w5.heap.size := by omega)))
    refine hK.out _ _ ?_ (fun hHeld => ?_)
    · (try dsimp only); (first | (refine ext_mk ?_; exact belt))
    clear hK K
    (try simp only [apz])
    refine take_at (i := 3) (some 7) rfl rfl (by kernel_rfl) (fun _ _ _ h => h) (by rfl) (v := ?_) ?_ (by assumption) ?_
    rotate_left
    · intro W hSw; (try dsimp only at hSw); go_simp; (try with_reducible rfl)
    (try simp only [apz])
    refine take_at (i := 4) (some 8) rfl rfl (by kernel_rfl) (fun _ _ _ h => h) (by rfl) (v := ?_) ?_ (by assumption) ?_
    rotate_left
    · intro W hSw; (try dsimp only at hSw); go_simp; (try with_reducible rfl)
    (try simp only [apz])
    refine take_at (i := 5) (some 9) rfl rfl (by kernel_rfl) (fun _ _ _ h => h) (by rfl) (v := ?_) ?_ (by assumption) ?_
    rotate_left
    · intro W hSw; (try dsimp only at hSw); go_simp; (try with_reducible rfl)
    (try simp only [apz])
    refine take_at (i := 6) (some 10) rfl rfl (by kernel_rfl) (fun _ _ _ h => h) (by rfl) (v := ?_) ?_ (by assumption) ?_
    rotate_left
    · intro W hSw; (try dsimp only at hSw); go_simp; (try with_reducible rfl)
    (try simp only [apz])
    refine take_at (i := 7) (some 11) rfl rfl (by kernel_rfl) (fun _ _ _ h => h) (by rfl) (v := ?_) ?_ (by assumption) ?_
    rotate_left
    · intro W hSw; (try dsimp only at hSw); go_simp; (try with_reducible rfl)
    (try simp only [apz])
    refine take_at (i := 8) (some 12) rfl rfl (by kernel_rfl) (fun _ _ _ h => h) (by rfl) (v := ?_) ?_ (by assumption) ?_
    rotate_left
    · intro W hSw; (try dsimp only at hSw); go_simp; (try with_reducible rfl)
    (try simp only [apz])
    refine take_at (i := 9) (some 13) rfl rfl (by kernel_rfl) (fun _ _ _ h => h) (by rfl) (v := ?_) ?_ (by assumption) ?_
    rotate_left
    · intro W hSw; (try dsimp only at hSw); go_simp; (try with_reducible rfl)
    (try simp only [apz])
    refine take_at (i := 10) (some 14) rfl rfl (by kernel_rfl) (fun _ _ _ h => h) (by rfl) (v := ?_) ?_ (by assumption) ?_
    rotate_left
    · intro W hSw; (try dsimp only at hSw); go_simp; (try with_reducible rfl)
    (try simp only [apz])
    refine take_at (i := 11) (some 15) rfl rfl (by kernel_rfl) (fun _ _ _ h => h) (by rfl) (v := ?_) ?_ (by assumption) ?_
    rotate_left
    · intro W hSw; (try dsimp only at hSw); go_simp; (try with_reducible rfl)
    (try simp only [apz])
    refine take_at (i := 12) (some 16) rfl rfl (by kernel_rfl) (fun _ _ _ h => h) (by rfl) (v := ?_) ?_ (by assumption) ?_
    rotate_left
    · intro W hSw; (try dsimp only at hSw); go_simp; (try with_reducible rfl)
    (try simp only [apz])
    refine take_at (i := 13) (some 17) rfl rfl (by kernel_rfl) (fun _ _ _ h => h) (by rfl) (v := ?_) ?_ (by assumption) ?_
    rotate_left
    · intro W hSw; (try dsimp only at hSw); go_simp; (try with_reducible rfl)
    (try simp only [apz])
    refine take_at (i := 14) (some 18) rfl rfl (by kernel_rfl) (fun _ _ _ h => h) (by rfl) (v := ?_) ?_ (by assumption) ?_
    rotate_left
    · intro W hSw; (try dsimp only at hSw); go_simp; (try with_reducible rfl)
    (try simp only [apz])
    refine take_at (i := 15) (some 19) rfl rfl (by kernel_rfl) (fun _ _ _ h => h) (by rfl) (v := ?_) ?_ (by assumption) ?_
    rotate_left
    · intro W hSw; (try dsimp only at hSw); go_simp; (try with_reducible rfl)
    (try simp only [apz])
    refine take_at (i := 16) (some 20) rfl rfl (by kernel_rfl) (fun _ _ _ h => h) (by rfl) (v := ?_) ?_ (by assumption) ?_
    rotate_left
    · intro W hSw; (try dsimp only at hSw); go_simp; (try with_reducible rfl)
    (try simp only [apz])
    refine take_at (i := 17) (some 21) rfl rfl (by kernel_rfl) (fun _ _ _ h => h) (by rfl) (v := ?_) ?_ (by assumption) ?_
    rotate_left
    · intro W hSw; (try dsimp only at hSw); go_simp; (try with_reducible rfl)
    (try simp only [apz])
    refine take_at (i := 18) (some 22) rfl rfl (by kernel_rfl) (fun _ _ _ h => h) (by rfl) (v := ?_) ?_ (by assumption) ?_
    rotate_left
    · intro W hSw; (try dsimp only at hSw); go_simp; (try with_reducible rfl)
    (try simp only [apz])
    refine take_at (i := 19) (some 23) rfl rfl (by kernel_rfl) (fun _ _ _ h => h) (by rfl) (v := ?_) ?_ (by assumption) ?_
    rotate_left
    · intro W hSw; (try dsimp only at hSw); go_simp; (try with_reducible rfl)
    (try simp only [apz])
    refine skip_at (i := 20) (some 24) rfl rfl (by kernel_rfl) (fun _ _ _ h => h) (by rfl) (by assumption) ?_
    (try simp only [apz])
    refine skip_at (i := 21) (some 25) rfl rfl (by kernel_rfl) (fun _ _ _ h => h) (by rfl) (by assumption) ?_
    (try simp only [apz])
    refine skip_at (i := 22) (some 26) rfl rfl (by kernel_rfl) (fun _ _ _ h => h) (by rfl) (by assumption) ?_
    (try simp only [apz])
    refine take_at (i := 23) (some 27) rfl rfl (by kernel_rfl) (fun _ _ _ h => h) (by rfl) (v := ?_) ?_ (by assumption) ?_
    rotate_left
    · intro W hSw; (try dsimp only at hSw); go_simp; (try with_reducible rfl)
    (try simp only [apz])
    refine take_at (i := 24) (some 28) rfl rfl (by kernel_rfl) (fun _ _ _ h => h) (by rfl) (v := ?_) ?_ (by assumption) ?_
    rotate_left
    · intro W hSw; (try dsimp only at hSw); go_simp; (try with_reducible rfl)
    (try simp only [apz])
    refine skip_at (i := 25) (some 29) rfl rfl (by kernel_rfl) (fun _ _ _ h => h) (by rfl) (by assumption) ?_
    (try simp only [apz])
    refine skip_at (i := 26) (some 30) rfl rfl (by kernel_rfl) (fun _ _ _ h => h) (by rfl) (by assumption) ?_
    (try simp only [apz])
    refine skip_at (i := 27) (some 31) rfl rfl (by kernel_rfl) (fun _ _ _ h => h) (by rfl) (by assumption) ?_
    (try simp only [apz])
    refine skip_at (i := 28) (some 32) rfl rfl (by kernel_rfl) (fun _ _ _ h => h) (by rfl) (by assumption) ?_
    (try simp only [apz])
    refine skip_at (i := 29) (some 33) rfl rfl (by kernel_rfl) (fun _ _ _ h => h) (by rfl) (by assumption) ?_
    (try simp only [apz])
    refine skip_at (i := 30) (some 34) rfl rfl (by kernel_rfl) (fun _ _ _ h => h) (by rfl) (by assumption) ?_
    (try simp only [apz])
    refine skip_at (i := 31) (some 35) rfl rfl (by kernel_rfl) (fun _ _ _ h => h) (by rfl) (by assumption) ?_
    (try simp only [apz])
    refine take_at (i := 32) (some 36) rfl rfl (by kernel_rfl) (fun _ _ _ h => h) (by rfl) (v := ?_) ?_ (by assumption) ?_
    rotate_left
    · intro W hSw; (try dsimp only at hSw); go_simp; (try with_reducible rfl)
    (try simp only [apz])
    refine wpAnyH_done (by kernel_rfl) ?_ _
    have gF : Below w0.heap.size w0 _ := And.right (by assumption)
    have gG := H_bb0.out.trans (gF.mono H_bb0.out.size)
    have fin : MB = false := by rw [H_eM.out]; simp
    have ⟨H_gF, H_gG, H_fin⟩ := hid3 gF gG fin; clear gF gG fin
    go_wp2_with fail
    go_ret
    exact ⟨ret_bool H_fin.out.symm, H_gG.out⟩
  have d3 : decide (mt < 0) = false := decide_eq_false c3
  by_cases c4 : 1000000000 < mt
  · have d4 : decide (1000000000 < mt) = true := decide_eq_true c4
    have z2 : TB = false := by rw [H_eT.out, decide_eq_false (by omega : ¬ mt ≤ 1000000000)]; simp
    subst z2
    refine wp_region_held_drew (S := (fun W => (∀ b o, b < w0.heap.size → W.cell? ⟨b, o, none⟩ = w0.cell? ⟨b, o, none⟩) ∧ Below w0.heap.size w0 W)) (by kernel_rfl) ?_ (fun hHeld => ?_)
    · (try dsimp only); (first | (refine ext_mk ?_; exact belt))
    refine take_at (i := 0) (some 4) rfl rfl (by kernel_rfl) (fun _ _ _ h => h) (by rfl) (v := ?_) ?_ (by assumption) ?_
    rotate_left
    · intro W hSw; (try dsimp only at hSw); go_simp; (try with_reducible rfl)
    (try simp only [apz])
    refine take_at (i := 1) (some 5) rfl rfl (by kernel_rfl) (fun _ _ _ h => h) (by rfl) (v := ?_) ?_ (by assumption) ?_
    rotate_left
    · intro W hSw; (try dsimp only at hSw); go_simp; (try with_reducible rfl)
    (try simp only [apz])
    refine wpAnyH_ready (rs := [2]) (by kernel_rfl) (by simp) ?_
    refine AllReadyH.cons rfl (fun K hK => ?_) AllReadyH.nil
    go_simp
    (first | (go_at_call 28; (with_reducible refine (H_q1.out _).mono ?_); rintro e w_ ⟨rfl, hw_⟩; subst hw_) | (go_at_call 32; (with_reducible refine (H_q2.out _).mono ?_); rintro e w5 ⟨rfl, hbw5⟩; have gw5 := Below.trans (And.right (by assumption : _ ∧ Below w0.heap.size w0 _)) (hbw5.mono (Below.size (And.right (by assumption : _ ∧ Below w0.heap.size w0 _)))); have gsw5 := gw5.size; have hcf := bcell hbw5; have hcw5 := hcf.1; have hfw5 := hcf.2; have hsw5 := hbw5.size; (try simp only [World.size_alloc, World.heap_drewN, heap_drew] at hsw5); clear hbw5 hcf; (try have hzw5 : w0.heap.size < w5.heap.size := by omega)))
    refine hK.out _ _ ?_ (fun hHeld => ?_)
    · (try dsimp only); (first | (refine ext_mk ?_; exact belt))
    clear hK K
    (try simp only [apz])
    refine take_at (i := 3) (some 7) rfl rfl (by kernel_rfl) (fun _ _ _ h => h) (by rfl) (v := ?_) ?_ (by assumption) ?_
    rotate_left
    · intro W hSw; (try dsimp only at hSw); go_simp; (try with_reducible rfl)
    (try simp only [apz])
    refine take_at (i := 4) (some 8) rfl rfl (by kernel_rfl) (fun _ _ _ h => h) (by rfl) (v := ?_) ?_ (by assumption) ?_
    rotate_left
    · intro W hSw; (try dsimp only at hSw); go_simp; (try with_reducible rfl)
    (try simp only [apz])
    refine take_at (i := 5) (some 9) rfl rfl (by kernel_rfl) (fun _ _ _ h => h) (by rfl) (v := ?_) ?_ (by assumption) ?_
    rotate_left
    · intro W hSw; (try dsimp only at hSw); go_simp; (try with_reducible rfl)
    (try simp only [apz])
    refine take_at (i := 6) (some 10) rfl rfl (by kernel_rfl) (fun _ _ _ h => h) (by rfl) (v := ?_) ?_ (by assumption) ?_
    rotate_left
    · intro W hSw; (try dsimp only at hSw); go_simp; (try with_reducible rfl)
    (try simp only [apz])
    refine take_at (i := 7) (some 11) rfl rfl (by kernel_rfl) (fun _ _ _ h => h) (by rfl) (v := ?_) ?_ (by assumption) ?_
    rotate_left
    · intro W hSw; (try dsimp only at hSw); go_simp; (try with_reducible rfl)
    (try simp only [apz])
    refine take_at (i := 8) (some 12) rfl rfl (by kernel_rfl) (fun _ _ _ h => h) (by rfl) (v := ?_) ?_ (by assumption) ?_
    rotate_left
    · intro W hSw; (try dsimp only at hSw); go_simp; (try with_reducible rfl)
    (try simp only [apz])
    refine take_at (i := 9) (some 13) rfl rfl (by kernel_rfl) (fun _ _ _ h => h) (by rfl) (v := ?_) ?_ (by assumption) ?_
    rotate_left
    · intro W hSw; (try dsimp only at hSw); go_simp; (try with_reducible rfl)
    (try simp only [apz])
    refine take_at (i := 10) (some 14) rfl rfl (by kernel_rfl) (fun _ _ _ h => h) (by rfl) (v := ?_) ?_ (by assumption) ?_
    rotate_left
    · intro W hSw; (try dsimp only at hSw); go_simp; (try with_reducible rfl)
    (try simp only [apz])
    refine take_at (i := 11) (some 15) rfl rfl (by kernel_rfl) (fun _ _ _ h => h) (by rfl) (v := ?_) ?_ (by assumption) ?_
    rotate_left
    · intro W hSw; (try dsimp only at hSw); go_simp; (try with_reducible rfl)
    (try simp only [apz])
    refine take_at (i := 12) (some 16) rfl rfl (by kernel_rfl) (fun _ _ _ h => h) (by rfl) (v := ?_) ?_ (by assumption) ?_
    rotate_left
    · intro W hSw; (try dsimp only at hSw); go_simp; (try with_reducible rfl)
    (try simp only [apz])
    refine take_at (i := 13) (some 17) rfl rfl (by kernel_rfl) (fun _ _ _ h => h) (by rfl) (v := ?_) ?_ (by assumption) ?_
    rotate_left
    · intro W hSw; (try dsimp only at hSw); go_simp; (try with_reducible rfl)
    (try simp only [apz])
    refine take_at (i := 14) (some 18) rfl rfl (by kernel_rfl) (fun _ _ _ h => h) (by rfl) (v := ?_) ?_ (by assumption) ?_
    rotate_left
    · intro W hSw; (try dsimp only at hSw); go_simp; (try with_reducible rfl)
    (try simp only [apz])
    refine take_at (i := 15) (some 19) rfl rfl (by kernel_rfl) (fun _ _ _ h => h) (by rfl) (v := ?_) ?_ (by assumption) ?_
    rotate_left
    · intro W hSw; (try dsimp only at hSw); go_simp; (try with_reducible rfl)
    (try simp only [apz])
    refine take_at (i := 16) (some 20) rfl rfl (by kernel_rfl) (fun _ _ _ h => h) (by rfl) (v := ?_) ?_ (by assumption) ?_
    rotate_left
    · intro W hSw; (try dsimp only at hSw); go_simp; (try with_reducible rfl)
    (try simp only [apz])
    refine take_at (i := 17) (some 21) rfl rfl (by kernel_rfl) (fun _ _ _ h => h) (by rfl) (v := ?_) ?_ (by assumption) ?_
    rotate_left
    · intro W hSw; (try dsimp only at hSw); go_simp; (try with_reducible rfl)
    (try simp only [apz])
    refine take_at (i := 18) (some 22) rfl rfl (by kernel_rfl) (fun _ _ _ h => h) (by rfl) (v := ?_) ?_ (by assumption) ?_
    rotate_left
    · intro W hSw; (try dsimp only at hSw); go_simp; (try with_reducible rfl)
    (try simp only [apz])
    refine take_at (i := 19) (some 23) rfl rfl (by kernel_rfl) (fun _ _ _ h => h) (by rfl) (v := ?_) ?_ (by assumption) ?_
    rotate_left
    · intro W hSw; (try dsimp only at hSw); go_simp; (try with_reducible rfl)
    (try simp only [apz])
    refine take_at (i := 20) (some 24) rfl rfl (by kernel_rfl) (fun _ _ _ h => h) (by rfl) (v := ?_) ?_ (by assumption) ?_
    rotate_left
    · intro W hSw; (try dsimp only at hSw); go_simp; (try with_reducible rfl)
    (try simp only [apz])
    refine take_at (i := 21) (some 25) rfl rfl (by kernel_rfl) (fun _ _ _ h => h) (by rfl) (v := ?_) ?_ (by assumption) ?_
    rotate_left
    · intro W hSw; (try dsimp only at hSw); go_simp; (try with_reducible rfl)
    (try simp only [apz])
    refine take_at (i := 22) (some 26) rfl rfl (by kernel_rfl) (fun _ _ _ h => h) (by rfl) (v := ?_) ?_ (by assumption) ?_
    rotate_left
    · intro W hSw; (try dsimp only at hSw); go_simp; (try with_reducible rfl)
    (try simp only [apz])
    refine take_at (i := 23) (some 27) rfl rfl (by kernel_rfl) (fun _ _ _ h => h) (by rfl) (v := ?_) ?_ (by assumption) ?_
    rotate_left
    · intro W hSw; (try dsimp only at hSw); go_simp; (try with_reducible rfl)
    (try simp only [apz])
    refine take_at (i := 24) (some 28) rfl rfl (by kernel_rfl) (fun _ _ _ h => h) (by rfl) (v := ?_) ?_ (by assumption) ?_
    rotate_left
    · intro W hSw; (try dsimp only at hSw); go_simp; (try with_reducible rfl)
    (try simp only [apz])
    refine skip_at (i := 25) (some 29) rfl rfl (by kernel_rfl) (fun _ _ _ h => h) (by rfl) (by assumption) ?_
    (try simp only [apz])
    refine skip_at (i := 26) (some 30) rfl rfl (by kernel_rfl) (fun _ _ _ h => h) (by rfl) (by assumption) ?_
    (try simp only [apz])
    refine skip_at (i := 27) (some 31) rfl rfl (by kernel_rfl) (fun _ _ _ h => h) (by rfl) (by assumption) ?_
    (try simp only [apz])
    refine skip_at (i := 28) (some 32) rfl rfl (by kernel_rfl) (fun _ _ _ h => h) (by rfl) (by assumption) ?_
    (try simp only [apz])
    refine skip_at (i := 29) (some 33) rfl rfl (by kernel_rfl) (fun _ _ _ h => h) (by rfl) (by assumption) ?_
    (try simp only [apz])
    refine skip_at (i := 30) (some 34) rfl rfl (by kernel_rfl) (fun _ _ _ h => h) (by rfl) (by assumption) ?_
    (try simp only [apz])
    refine skip_at (i := 31) (some 35) rfl rfl (by kernel_rfl) (fun _ _ _ h => h) (by rfl) (by assumption) ?_
    (try simp only [apz])
    refine take_at (i := 32) (some 36) rfl rfl (by kernel_rfl) (fun _ _ _ h => h) (by rfl) (v := ?_) ?_ (by assumption) ?_
    rotate_left
    · intro W hSw; (try dsimp only at hSw); go_simp; (try with_reducible rfl)
    (try simp only [apz])
    refine wpAnyH_done (by kernel_rfl) ?_ _
    have gF : Below w0.heap.size w0 _ := And.right (by assumption)
    have gG := H_bb0.out.trans (gF.mono H_bb0.out.size)
    have fin : MB = false := by rw [H_eM.out]; simp
    have ⟨H_gF, H_gG, H_fin⟩ := hid3 gF gG fin; clear gF gG fin
    go_wp2_with fail
    go_ret
    exact ⟨ret_bool H_fin.out.symm, H_gG.out⟩
  have d4 : decide (1000000000 < mt) = false := decide_eq_false c4
  have z2 : TB = true := by rw [H_eT.out, decide_eq_true (by omega : 0 ≤ mt), decide_eq_true (by omega : mt ≤ 1000000000)]; rfl
  subst z2
  by_cases c5 : (n : Int) = CX
  rotate_left
  · have d5 : ((n : Int) != CX) = true := by simp [c5]
    have z3 : decide ((n : Int) = CX) = false := decide_eq_false c5
    refine wp_region_held_drew (S := (fun W => (∀ b o, b < w0.heap.size → W.cell? ⟨b, o, none⟩ = w0.cell? ⟨b, o, none⟩) ∧ Below w0.heap.size w0 W)) (by kernel_rfl) ?_ (fun hHeld => ?_)
    · (try dsimp only); (first | (refine ext_mk ?_; exact belt))
    refine take_at (i := 0) (some 4) rfl rfl (by kernel_rfl) (fun _ _ _ h => h) (by rfl) (v := ?_) ?_ (by assumption) ?_
    rotate_left
    · intro W hSw; (try dsimp only at hSw); go_simp; (try with_reducible rfl)
    (try simp only [apz])
    refine take_at (i := 1) (some 5) rfl rfl (by kernel_rfl) (fun _ _ _ h => h) (by rfl) (v := ?_) ?_ (by assumption) ?_
    rotate_left
    · intro W hSw; (try dsimp only at hSw); go_simp; (try with_reducible rfl)
    (try simp only [apz])
    refine wpAnyH_ready (rs := [2]) (by kernel_rfl) (by simp) ?_
    refine AllReadyH.cons rfl (fun K hK => ?_) AllReadyH.nil
    go_simp
    (first | (go_at_call 28; (with_reducible refine (H_q1.out _).mono ?_); rintro e w_ ⟨rfl, hw_⟩; subst hw_) | (go_at_call 32; (with_reducible refine (H_q2.out _).mono ?_); rintro e w5 ⟨rfl, hbw5⟩; have gw5 := Below.trans (And.right (by assumption : _ ∧ Below w0.heap.size w0 _)) (hbw5.mono (Below.size (And.right (by assumption : _ ∧ Below w0.heap.size w0 _)))); have gsw5 := gw5.size; have hcf := bcell hbw5; have hcw5 := hcf.1; have hfw5 := hcf.2; have hsw5 := hbw5.size; (try simp only [World.size_alloc, World.heap_drewN, heap_drew] at hsw5); clear hbw5 hcf; (try have hzw5 : w0.heap.size < w5.heap.size := by omega)))
    refine hK.out _ _ ?_ (fun hHeld => ?_)
    · (try dsimp only); (first | (refine ext_mk ?_; exact belt))
    clear hK K
    (try simp only [apz])
    refine take_at (i := 3) (some 7) rfl rfl (by kernel_rfl) (fun _ _ _ h => h) (by rfl) (v := ?_) ?_ (by assumption) ?_
    rotate_left
    · intro W hSw; (try dsimp only at hSw); go_simp; (try with_reducible rfl)
    (try simp only [apz])
    refine take_at (i := 4) (some 8) rfl rfl (by kernel_rfl) (fun _ _ _ h => h) (by rfl) (v := ?_) ?_ (by assumption) ?_
    rotate_left
    · intro W hSw; (try dsimp only at hSw); go_simp; (try with_reducible rfl)
    (try simp only [apz])
    refine take_at (i := 5) (some 9) rfl rfl (by kernel_rfl) (fun _ _ _ h => h) (by rfl) (v := ?_) ?_ (by assumption) ?_
    rotate_left
    · intro W hSw; (try dsimp only at hSw); go_simp; (try with_reducible rfl)
    (try simp only [apz])
    refine take_at (i := 6) (some 10) rfl rfl (by kernel_rfl) (fun _ _ _ h => h) (by rfl) (v := ?_) ?_ (by assumption) ?_
    rotate_left
    · intro W hSw; (try dsimp only at hSw); go_simp; (try with_reducible rfl)
    (try simp only [apz])
    refine take_at (i := 7) (some 11) rfl rfl (by kernel_rfl) (fun _ _ _ h => h) (by rfl) (v := ?_) ?_ (by assumption) ?_
    rotate_left
    · intro W hSw; (try dsimp only at hSw); go_simp; (try with_reducible rfl)
    (try simp only [apz])
    refine take_at (i := 8) (some 12) rfl rfl (by kernel_rfl) (fun _ _ _ h => h) (by rfl) (v := ?_) ?_ (by assumption) ?_
    rotate_left
    · intro W hSw; (try dsimp only at hSw); go_simp; (try with_reducible rfl)
    (try simp only [apz])
    refine take_at (i := 9) (some 13) rfl rfl (by kernel_rfl) (fun _ _ _ h => h) (by rfl) (v := ?_) ?_ (by assumption) ?_
    rotate_left
    · intro W hSw; (try dsimp only at hSw); go_simp; (try with_reducible rfl)
    (try simp only [apz])
    refine take_at (i := 10) (some 14) rfl rfl (by kernel_rfl) (fun _ _ _ h => h) (by rfl) (v := ?_) ?_ (by assumption) ?_
    rotate_left
    · intro W hSw; (try dsimp only at hSw); go_simp; (try with_reducible rfl)
    (try simp only [apz])
    refine take_at (i := 11) (some 15) rfl rfl (by kernel_rfl) (fun _ _ _ h => h) (by rfl) (v := ?_) ?_ (by assumption) ?_
    rotate_left
    · intro W hSw; (try dsimp only at hSw); go_simp; (try with_reducible rfl)
    (try simp only [apz])
    refine take_at (i := 12) (some 16) rfl rfl (by kernel_rfl) (fun _ _ _ h => h) (by rfl) (v := ?_) ?_ (by assumption) ?_
    rotate_left
    · intro W hSw; (try dsimp only at hSw); go_simp; (try with_reducible rfl)
    (try simp only [apz])
    refine take_at (i := 13) (some 17) rfl rfl (by kernel_rfl) (fun _ _ _ h => h) (by rfl) (v := ?_) ?_ (by assumption) ?_
    rotate_left
    · intro W hSw; (try dsimp only at hSw); go_simp; (try with_reducible rfl)
    (try simp only [apz])
    refine take_at (i := 14) (some 18) rfl rfl (by kernel_rfl) (fun _ _ _ h => h) (by rfl) (v := ?_) ?_ (by assumption) ?_
    rotate_left
    · intro W hSw; (try dsimp only at hSw); go_simp; (try with_reducible rfl)
    (try simp only [apz])
    refine take_at (i := 15) (some 19) rfl rfl (by kernel_rfl) (fun _ _ _ h => h) (by rfl) (v := ?_) ?_ (by assumption) ?_
    rotate_left
    · intro W hSw; (try dsimp only at hSw); go_simp; (try with_reducible rfl)
    (try simp only [apz])
    refine take_at (i := 16) (some 20) rfl rfl (by kernel_rfl) (fun _ _ _ h => h) (by rfl) (v := ?_) ?_ (by assumption) ?_
    rotate_left
    · intro W hSw; (try dsimp only at hSw); go_simp; (try with_reducible rfl)
    (try simp only [apz])
    refine take_at (i := 17) (some 21) rfl rfl (by kernel_rfl) (fun _ _ _ h => h) (by rfl) (v := ?_) ?_ (by assumption) ?_
    rotate_left
    · intro W hSw; (try dsimp only at hSw); go_simp; (try with_reducible rfl)
    (try simp only [apz])
    refine take_at (i := 18) (some 22) rfl rfl (by kernel_rfl) (fun _ _ _ h => h) (by rfl) (v := ?_) ?_ (by assumption) ?_
    rotate_left
    · intro W hSw; (try dsimp only at hSw); go_simp; (try with_reducible rfl)
    (try simp only [apz])
    refine take_at (i := 19) (some 23) rfl rfl (by kernel_rfl) (fun _ _ _ h => h) (by rfl) (v := ?_) ?_ (by assumption) ?_
    rotate_left
    · intro W hSw; (try dsimp only at hSw); go_simp; (try with_reducible rfl)
    (try simp only [apz])
    refine take_at (i := 20) (some 24) rfl rfl (by kernel_rfl) (fun _ _ _ h => h) (by rfl) (v := ?_) ?_ (by assumption) ?_
    rotate_left
    · intro W hSw; (try dsimp only at hSw); go_simp; (try with_reducible rfl)
    (try simp only [apz])
    refine take_at (i := 21) (some 25) rfl rfl (by kernel_rfl) (fun _ _ _ h => h) (by rfl) (v := ?_) ?_ (by assumption) ?_
    rotate_left
    · intro W hSw; (try dsimp only at hSw); go_simp; (try with_reducible rfl)
    (try simp only [apz])
    refine take_at (i := 22) (some 26) rfl rfl (by kernel_rfl) (fun _ _ _ h => h) (by rfl) (v := ?_) ?_ (by assumption) ?_
    rotate_left
    · intro W hSw; (try dsimp only at hSw); go_simp; (try with_reducible rfl)
    (try simp only [apz])
    refine take_at (i := 23) (some 27) rfl rfl (by kernel_rfl) (fun _ _ _ h => h) (by rfl) (v := ?_) ?_ (by assumption) ?_
    rotate_left
    · intro W hSw; (try dsimp only at hSw); go_simp; (try with_reducible rfl)
    (try simp only [apz])
    refine take_at (i := 24) (some 28) rfl rfl (by kernel_rfl) (fun _ _ _ h => h) (by rfl) (v := ?_) ?_ (by assumption) ?_
    rotate_left
    · intro W hSw; (try dsimp only at hSw); go_simp; (try with_reducible rfl)
    (try simp only [apz])
    refine take_at (i := 25) (some 29) rfl rfl (by kernel_rfl) (fun _ _ _ h => h) (by rfl) (v := ?_) ?_ (by assumption) ?_
    rotate_left
    · intro W hSw; (try dsimp only at hSw); go_simp; (try with_reducible rfl)
    (try simp only [apz])
    refine take_at (i := 26) (some 30) rfl rfl (by kernel_rfl) (fun _ _ _ h => h) (by rfl) (v := ?_) ?_ (by assumption) ?_
    rotate_left
    · intro W hSw; (try dsimp only at hSw); go_simp; (try with_reducible rfl)
    (try simp only [apz])
    refine take_at (i := 27) (some 31) rfl rfl (by kernel_rfl) (fun _ _ _ h => h) (by rfl) (v := ?_) ?_ (by assumption) ?_
    rotate_left
    · intro W hSw; (try dsimp only at hSw); go_simp; (try with_reducible rfl)
    (try simp only [apz])
    refine take_at (i := 28) (some 32) rfl rfl (by kernel_rfl) (fun _ _ _ h => h) (by rfl) (v := ?_) ?_ (by assumption) ?_
    rotate_left
    · intro W hSw; (try dsimp only at hSw); go_simp; (try with_reducible rfl)
    (try simp only [apz])
    refine take_at (i := 29) (some 33) rfl rfl (by kernel_rfl) (fun _ _ _ h => h) (by rfl) (v := ?_) ?_ (by assumption) ?_
    rotate_left
    · intro W hSw; (try dsimp only at hSw); go_simp; (try with_reducible rfl)
    (try simp only [apz])
    refine wpAnyH_ready (rs := [30]) (by kernel_rfl) (by simp) ?_
    refine AllReadyH.cons rfl (fun K hK => ?_) AllReadyH.nil
    go_simp
    (first | (go_at_call 28; (with_reducible refine (H_q1.out _).mono ?_); rintro e w_ ⟨rfl, hw_⟩; subst hw_) | (go_at_call 32; (with_reducible refine (H_q2.out _).mono ?_); rintro e w5 ⟨rfl, hbw5⟩; have gw5 := Below.trans (And.right (by assumption : _ ∧ Below w0.heap.size w0 _)) (hbw5.mono (Below.size (And.right (by assumption : _ ∧ Below w0.heap.size w0 _)))); have gsw5 := gw5.size; have hcf := bcell hbw5; have hcw5 := hcf.1; have hfw5 := hcf.2; have hsw5 := hbw5.size; (try simp only [World.size_alloc, World.heap_drewN, heap_drew] at hsw5); clear hbw5 hcf; (try have hzw5 : w0.heap.size < w5.heap.size := by omega)))
    refine hK.out _ _ ?_ (fun hHeld => ?_)
    · (try dsimp only); (first | (refine ext_mk ?_; exact belt))
    clear hK K
    (try simp only [apz])
    refine take_at (i := 31) (some 35) rfl rfl (by kernel_rfl) (fun _ _ _ h => h) (by rfl) (v := ?_) ?_ (by assumption) ?_
    rotate_left
    · intro W hSw; (try dsimp only at hSw); go_simp; (try with_reducible rfl)
    (try simp only [apz])
    refine take_at (i := 32) (some 36) rfl rfl (by kernel_rfl) (fun _ _ _ h => h) (by rfl) (v := ?_) ?_ (by assumption) ?_
    rotate_left
    · intro W hSw; (try dsimp only at hSw); go_simp; (try with_reducible rfl)
    (try simp only [apz])
    refine wpAnyH_done (by kernel_rfl) ?_ _
    have gF : Below w0.heap.size w0 _ := And.right (by assumption)
    have gG := H_bb0.out.trans (gF.mono H_bb0.out.size)
    have fin : MB = false := by rw [H_eM.out, z3]; simp
    have ⟨H_gF, H_gG, H_fin⟩ := hid3 gF gG fin; clear gF gG fin
    go_wp2_with fail
    go_ret
    exact ⟨ret_bool H_fin.out.symm, H_gG.out⟩
  · have d5 : ((n : Int) != CX) = false := by simp [c5]
    have z3 : decide ((n : Int) = CX) = true := decide_eq_true c5
    refine wp_region_held_drew (S := (fun W => (∀ b o, b < w0.heap.size → W.cell? ⟨b, o, none⟩ = w0.cell? ⟨b, o, none⟩) ∧ Below w0.heap.size w0 W)) (by kernel_rfl) ?_ (fun hHeld => ?_)
    · (try dsimp only); (first | (refine ext_mk ?_; exact belt))
    refine take_at (i := 0) (some 4) rfl rfl (by kernel_rfl) (fun _ _ _ h => h) (by rfl) (v := ?_) ?_ (by assumption) ?_
    rotate_left
    · intro W hSw; (try dsimp only at hSw); go_simp; (try with_reducible rfl)
    (try simp only [apz])
    refine take_at (i := 1) (some 5) rfl rfl (by kernel_rfl) (fun _ _ _ h => h) (by rfl) (v := ?_) ?_ (by assumption) ?_
    rotate_left
    · intro W hSw; (try dsimp only at hSw); go_simp; (try with_reducible rfl)
    (try simp only [apz])
    refine wpAnyH_ready (rs := [2]) (by kernel_rfl) (by simp) ?_
    refine AllReadyH.cons rfl (fun K hK => ?_) AllReadyH.nil
    go_simp
    (first | (go_at_call 28; (with_reducible refine (H_q1.out _).mono ?_); rintro e w_ ⟨rfl, hw_⟩; subst hw_) | (go_at_call 32; (with_reducible refine (H_q2.out _).mono ?_); rintro e w5 ⟨rfl, hbw5⟩; have gw5 := Below.trans (And.right (by assumption : _ ∧ Below w0.heap.size w0 _)) (hbw5.mono (Below.size (And.right (by assumption : _ ∧ Below w0.heap.size w0 _)))); have gsw5 := gw5.size; have hcf := bcell hbw5; have hcw5 := hcf.1; have hfw5 := hcf.2; have hsw5 := hbw5.size; (try simp only [World.size_alloc, World.heap_drewN, heap_drew] at hsw5); clear hbw5 hcf; (try have hzw5 : w0.heap.size < w5.heap.size := by omega)))
    refine hK.out _ _ ?_ (fun hHeld => ?_)
    · (try dsimp only); (first | (refine ext_mk ?_; exact belt))
    clear hK K
    (try simp only [apz])
    refine take_at (i := 3) (some 7) rfl rfl (by kernel_rfl) (fun _ _ _ h => h) (by rfl) (v := ?_) ?_ (by assumption) ?_
    rotate_left
    · intro W hSw; (try dsimp only at hSw); go_simp; (try with_reducible rfl)
    (try simp only [apz])
    refine take_at (i := 4) (some 8) rfl rfl (by kernel_rfl) (fun _ _ _ h => h) (by rfl) (v := ?_) ?_ (by assumption) ?_
    rotate_left
    · intro W hSw; (try dsimp only at hSw); go_simp; (try with_reducible rfl)
    (try simp only [apz])
    refine take_at (i := 5) (some 9) rfl rfl (by kernel_rfl) (fun _ _ _ h => h) (by rfl) (v := ?_) ?_ (by assumption) ?_
    rotate_left
    · intro W hSw; (try dsimp only at hSw); go_simp; (try with_reducible rfl)
    (try simp only [apz])
    refine take_at (i := 6) (some 10) rfl rfl (by kernel_rfl) (fun _ _ _ h => h) (by rfl) (v := ?_) ?_ (by assumption) ?_
    rotate_left
    · intro W hSw; (try dsimp only at hSw); go_simp; (try with_reducible rfl)
    (try simp only [apz])
    refine take_at (i := 7) (some 11) rfl rfl (by kernel_rfl) (fun _ _ _ h => h) (by rfl) (v := ?_) ?_ (by assumption) ?_
    rotate_left
    · intro W hSw; (try dsimp only at hSw); go_simp; (try with_reducible rfl)
    (try simp only [apz])
    refine take_at (i := 8) (some 12) rfl rfl (by kernel_rfl) (fun _ _ _ h => h) (by rfl) (v := ?_) ?_ (by assumption) ?_
    rotate_left
    · intro W hSw; (try dsimp only at hSw); go_simp; (try with_reducible rfl)
    (try simp only [apz])
    refine take_at (i := 9) (some 13) rfl rfl (by kernel_rfl) (fun _ _ _ h => h) (by rfl) (v := ?_) ?_ (by assumption) ?_
    rotate_left
    · intro W hSw; (try dsimp only at hSw); go_simp; (try with_reducible rfl)
    (try simp only [apz])
    refine take_at (i := 10) (some 14) rfl rfl (by kernel_rfl) (fun _ _ _ h => h) (by rfl) (v := ?_) ?_ (by assumption) ?_
    rotate_left
    · intro W hSw; (try dsimp only at hSw); go_simp; (try with_reducible rfl)
    (try simp only [apz])
    refine take_at (i := 11) (some 15) rfl rfl (by kernel_rfl) (fun _ _ _ h => h) (by rfl) (v := ?_) ?_ (by assumption) ?_
    rotate_left
    · intro W hSw; (try dsimp only at hSw); go_simp; (try with_reducible rfl)
    (try simp only [apz])
    refine take_at (i := 12) (some 16) rfl rfl (by kernel_rfl) (fun _ _ _ h => h) (by rfl) (v := ?_) ?_ (by assumption) ?_
    rotate_left
    · intro W hSw; (try dsimp only at hSw); go_simp; (try with_reducible rfl)
    (try simp only [apz])
    refine take_at (i := 13) (some 17) rfl rfl (by kernel_rfl) (fun _ _ _ h => h) (by rfl) (v := ?_) ?_ (by assumption) ?_
    rotate_left
    · intro W hSw; (try dsimp only at hSw); go_simp; (try with_reducible rfl)
    (try simp only [apz])
    refine take_at (i := 14) (some 18) rfl rfl (by kernel_rfl) (fun _ _ _ h => h) (by rfl) (v := ?_) ?_ (by assumption) ?_
    rotate_left
    · intro W hSw; (try dsimp only at hSw); go_simp; (try with_reducible rfl)
    (try simp only [apz])
    refine take_at (i := 15) (some 19) rfl rfl (by kernel_rfl) (fun _ _ _ h => h) (by rfl) (v := ?_) ?_ (by assumption) ?_
    rotate_left
    · intro W hSw; (try dsimp only at hSw); go_simp; (try with_reducible rfl)
    (try simp only [apz])
    refine take_at (i := 16) (some 20) rfl rfl (by kernel_rfl) (fun _ _ _ h => h) (by rfl) (v := ?_) ?_ (by assumption) ?_
    rotate_left
    · intro W hSw; (try dsimp only at hSw); go_simp; (try with_reducible rfl)
    (try simp only [apz])
    refine take_at (i := 17) (some 21) rfl rfl (by kernel_rfl) (fun _ _ _ h => h) (by rfl) (v := ?_) ?_ (by assumption) ?_
    rotate_left
    · intro W hSw; (try dsimp only at hSw); go_simp; (try with_reducible rfl)
    (try simp only [apz])
    refine take_at (i := 18) (some 22) rfl rfl (by kernel_rfl) (fun _ _ _ h => h) (by rfl) (v := ?_) ?_ (by assumption) ?_
    rotate_left
    · intro W hSw; (try dsimp only at hSw); go_simp; (try with_reducible rfl)
    (try simp only [apz])
    refine take_at (i := 19) (some 23) rfl rfl (by kernel_rfl) (fun _ _ _ h => h) (by rfl) (v := ?_) ?_ (by assumption) ?_
    rotate_left
    · intro W hSw; (try dsimp only at hSw); go_simp; (try with_reducible rfl)
    (try simp only [apz])
    refine take_at (i := 20) (some 24) rfl rfl (by kernel_rfl) (fun _ _ _ h => h) (by rfl) (v := ?_) ?_ (by assumption) ?_
    rotate_left
    · intro W hSw; (try dsimp only at hSw); go_simp; (try with_reducible rfl)
    (try simp only [apz])
    refine take_at (i := 21) (some 25) rfl rfl (by kernel_rfl) (fun _ _ _ h => h) (by rfl) (v := ?_) ?_ (by assumption) ?_
    rotate_left
    · intro W hSw; (try dsimp only at hSw); go_simp; (try with_reducible rfl)
    (try simp only [apz])
    refine take_at (i := 22) (some 26) rfl rfl (by kernel_rfl) (fun _ _ _ h => h) (by rfl) (v := ?_) ?_ (by assumption) ?_
    rotate_left
    · intro W hSw; (try dsimp only at hSw); go_simp; (try with_reducible rfl)
    (try simp only [apz])
    refine take_at (i := 23) (some 27) rfl rfl (by kernel_rfl) (fun _ _ _ h => h) (by rfl) (v := ?_) ?_ (by assumption) ?_
    rotate_left
    · intro W hSw; (try dsimp only at hSw); go_simp; (try with_reducible rfl)
    (try simp only [apz])
    refine take_at (i := 24) (some 28) rfl rfl (by kernel_rfl) (fun _ _ _ h => h) (by rfl) (v := ?_) ?_ (by assumption) ?_
    rotate_left
    · intro W hSw; (try dsimp only at hSw); go_simp; (try with_reducible rfl)
    (try simp only [apz])
    refine take_at (i := 25) (some 29) rfl rfl (by kernel_rfl) (fun _ _ _ h => h) (by rfl) (v := ?_) ?_ (by assumption) ?_
    rotate_left
    · intro W hSw; (try dsimp only at hSw); go_simp; (try with_reducible rfl)
    (try simp only [apz])
    refine take_at (i := 26) (some 30) rfl rfl (by kernel_rfl) (fun _ _ _ h => h) (by rfl) (v := ?_) ?_ (by assumption) ?_
    rotate_left
    · intro W hSw; (try dsimp only at hSw); go_simp; (try with_reducible rfl)
    (try simp only [apz])
    refine take_at (i := 27) (some 31) rfl rfl (by kernel_rfl) (fun _ _ _ h => h) (by rfl) (v := ?_) ?_ (by assumption) ?_
    rotate_left
    · intro W hSw; (try dsimp only at hSw); go_simp; (try with_reducible rfl)
    (try simp only [apz])
    refine take_at (i := 28) (some 32) rfl rfl (by kernel_rfl) (fun _ _ _ h => h) (by rfl) (v := ?_) ?_ (by assumption) ?_
    rotate_left
    · intro W hSw; (try dsimp only at hSw); go_simp; (try with_reducible rfl)
    (try simp only [apz])
    refine take_at (i := 29) (some 33) rfl rfl (by kernel_rfl) (fun _ _ _ h => h) (by rfl) (v := ?_) ?_ (by assumption) ?_
    rotate_left
    · intro W hSw; (try dsimp only at hSw); go_simp; (try with_reducible rfl)
    (try simp only [apz])
    refine wpAnyH_ready (rs := [30]) (by kernel_rfl) (by simp) ?_
    refine AllReadyH.cons rfl (fun K hK => ?_) AllReadyH.nil
    go_simp
    (first | (go_at_call 28; (with_reducible refine (H_q1.out _).mono ?_); rintro e w_ ⟨rfl, hw_⟩; subst hw_) | (go_at_call 32; (with_reducible refine (H_q2.out _).mono ?_); rintro e w5 ⟨rfl, hbw5⟩; have gw5 := Below.trans (And.right (by assumption : _ ∧ Below w0.heap.size w0 _)) (hbw5.mono (Below.size (And.right (by assumption : _ ∧ Below w0.heap.size w0 _)))); have gsw5 := gw5.size; have hcf := bcell hbw5; have hcw5 := hcf.1; have hfw5 := hcf.2; have hsw5 := hbw5.size; (try simp only [World.size_alloc, World.heap_drewN, heap_drew] at hsw5); clear hbw5 hcf; (try have hzw5 : w0.heap.size < w5.heap.size := by omega)))
    refine hK.out _ _ ?_ (fun hHeld => ?_)
    · (try dsimp only); (first | (refine ext_mk ?_; exact belt))
    clear hK K
    (try simp only [apz])
    refine take_at (i := 31) (some 35) rfl rfl (by kernel_rfl) (fun _ _ _ h => h) (by rfl) (v := ?_) ?_ (by assumption) ?_
    rotate_left
    · intro W hSw; (try dsimp only at hSw); go_simp; (try with_reducible rfl)
    (try simp only [apz])
    refine take_at (i := 32) (some 36) rfl rfl (by kernel_rfl) (fun _ _ _ h => h) (by rfl) (v := ?_) ?_ (by assumption) ?_
    rotate_left
    · intro W hSw; (try dsimp only at hSw); go_simp; (try with_reducible rfl)
    (try simp only [apz])
    refine wpAnyH_done (by kernel_rfl) ?_ _
    have gF : Below w0.heap.size w0 _ := And.right (by assumption)
    have gG := H_bb0.out.trans (gF.mono H_bb0.out.size)
    have fin : MB = ma.all argB := by rw [H_eM.out, z3]; rfl
    have l5 := H_l0.out.below gF
    have k5 := H_k0.out.below gF
    have hn0 := gF
    clear y0 y1 y2 y3 y4
    clear d5
    have ⟨H_gF, H_gG, H_fin, H_l5, H_k5, H_hn0, H_c5, H_z3⟩ := hid8 gF gG fin l5 k5 hn0 c5 z3; clear gF gG fin l5 k5 hn0 c5 z3
    go_upto_region 4 with (fail)
    go_loopw [3] (fun i wr => ∃ k : Nat, k ≤ n ∧ i = .int .i64 k ∧ (∀ j, j < k → argB (ma.getD j 0) = true) ∧ Below w5.heap.size w5 wr) (fun i _ => n - (intOf i).toNat)
    case atStart => exact ⟨0, by omega, rfl, fun j hj => absurd hj (by omega), Below.refl _ _⟩
    case round =>
      obtain ⟨k, hk, rfl, hall, bz⟩ := hrel
      have kz := H_k5.out.below bz
      have gGz := H_gG.out.trans (bz.mono H_gG.out.size)
      by_cases hlt : k < n
      · have i1 : (0 : Int) ≤ (k : Int) := by omega
        have i2 : (k : Int) < (n : Int) := by omega
        obtain ⟨b, off, hA, hbl, hcx⟩ := (H_l5.out.below bz) k (by rw [H_hln.out]; exact hlt)
        subst hA
        have eV : argB (ma.getD k 0) = (decide (0 ≤ ma.getD k 0) && decide (ma.getD k 0 ≤ 1000000000)) := rfl
        have hnx : argB (ma.getD k 0) = true → ∀ j, j < k + 1 → argB (ma.getD j 0) = true := fun he j hj => by
          rcases Nat.lt_or_ge j k with h | h
          · exact hall j h
          · rw [show j = k by omega]; exact he
        have hno : argB (ma.getD k 0) = false → ma.all argB = false := fun he => H_ho.out k hlt he
        generalize argB (ma.getD k 0) = AB at *
        generalize ma.getD k 0 = v at *
        by_cases c6 : v < 0
        · have d6 : decide (v < 0) = true := decide_eq_true c6
          have z4 : AB = false := by rw [eV, decide_eq_false (by omega : ¬ 0 ≤ v)]; rfl
          have z5 := hno z4
          have ⟨H_hall, H_hnx, H_hno, H_bz, H_kz, H_gGz, H_z4, H_z5⟩ := hid8 hall hnx hno bz kz gGz z4 z5; clear hall hnx hno bz kz gGz z4 z5; have H_eV := Lib.hid eV; clear eV
          have y0 := (H_kz.out 0 _ rfl).at
          have y1 := (H_kz.out 1 _ rfl).at
          have y2 := (H_kz.out 2 _ rfl).at
          have y3 := (H_kz.out 3 _ rfl).at
          have y4 := (H_kz.out 4 _ rfl).at
          go_wp2_with fail
          go_ret
          exact ⟨ret_bool (by rw [H_fin.out, H_z5.out]), H_gGz.out⟩
        have d6 : decide (v < 0) = false := decide_eq_false c6
        by_cases c7 : 1000000000 < v
        · have d7 : decide (1000000000 < v) = true := decide_eq_true c7
          have z4 : AB = false := by rw [eV, decide_eq_false (by omega : ¬ v ≤ 1000000000)]; simp
          have z5 := hno z4
          have ⟨H_hall, H_hnx, H_hno, H_bz, H_kz, H_gGz, H_z4, H_z5⟩ := hid8 hall hnx hno bz kz gGz z4 z5; clear hall hnx hno bz kz gGz z4 z5; have H_eV := Lib.hid eV; clear eV
          have y0 := (H_kz.out 0 _ rfl).at
          have y1 := (H_kz.out 1 _ rfl).at
          have y2 := (H_kz.out 2 _ rfl).at
          have y3 := (H_kz.out 3 _ rfl).at
          have y4 := (H_kz.out 4 _ rfl).at
          go_wp2_with fail
          go_ret
          exact ⟨ret_bool (by rw [H_fin.out, H_z5.out]), H_gGz.out⟩
        have d7 : decide (1000000000 < v) = false := decide_eq_false c7
        have z4 : AB = true := by rw [eV, decide_eq_true (by omega : 0 ≤ v), decide_eq_true (by omega : v ≤ 1000000000)]; rfl
        have z5 := hnx z4
        have ⟨H_hall, H_hnx, H_hno, H_bz, H_kz, H_gGz, H_z4, H_z5⟩ := hid8 hall hnx hno bz kz gGz z4 z5; clear hall hnx hno bz kz gGz z4 z5; have H_eV := Lib.hid eV; clear eV
        have y0 := (H_kz.out 0 _ rfl).at
        have y1 := (H_kz.out 1 _ rfl).at
        have y2 := (H_kz.out 2 _ rfl).at
        have y3 := (H_kz.out 3 _ rfl).at
        have y4 := (H_kz.out 4 _ rfl).at
        go_wp2_with fail
        go_roundw
        case rel => exact ⟨k + 1, by omega, by go_num, H_z5.out, H_bz.out⟩
        case measure => simp [intOf]; omega
      · have i2 : ¬ (k : Int) < (n : Int) := by omega
        have z5 : ma.all argB = true := H_hi.out (fun j hj => hall j (by omega))
        have ⟨H_hall, H_bz, H_kz, H_gGz, H_z5⟩ := hid5 hall bz kz gGz z5; clear hall bz kz gGz z5
        have y0 := (H_kz.out 0 _ rfl).at
        have y1 := (H_kz.out 1 _ rfl).at
        have y2 := (H_kz.out 2 _ rfl).at
        have y3 := (H_kz.out 3 _ rfl).at
        have y4 := (H_kz.out 4 _ rfl).at
        go_wp2_with fail
        go_ret
        exact ⟨ret_bool (by rw [H_fin.out, H_z5.out]), H_gGz.out⟩
set_option maxHeartbeats 4000000 in
theorem rInts_any (m : Msg) (hn : m.a.length ≤ 100000) (w : World) (hl : IntsAt w m.A .i64 m.a) :
    Calls Tryd.prog 54 #[.agg m.cells.toArray] w fun e w' => ∃ A c, e = .returned (.slice A (4 + m.a.length) c) ∧ OwnInts w' w.heap.size 3 .i64 A c (msI m) ∧ Below w.heap.size w w' := by
  obtain ⟨i0, hi, hz0, hz1, hz2⟩ := info_parts infoJI
  obtain ⟨n, hln⟩ : ∃ n, m.a.length = n := ⟨_, rfl⟩
  have e0 : m.cells.toArray = #[.int .i64 m.p, .int .i64 m.s, .int .i64 m.t, .int .i64 m.k, .slice m.A n m.c] := by rw [← hln]; rfl
  rw [e0]
  rw [hln] at hn ⊢
  obtain ⟨w0, hw0⟩ : ∃ W, w.alloc (.cells #[.int .i64 m.p, .int .i64 m.s, .int .i64 m.t, .int .i64 m.k, .slice m.A n m.c] 47) = W := ⟨_, rfl⟩
  have bb0 : Below w.heap.size w w0 := by rw [← hw0]; exact (Below.refl _ _).alloc (Nat.le_refl _) _
  have k0 : Blk w0 w.heap.size #[.int .i64 m.p, .int .i64 m.s, .int .i64 m.t, .int .i64 m.k, .slice m.A n m.c] := by rw [← hw0]; exact blk_new rfl
  have l0 := hl.below bb0
  have eI : msI m = [m.p, m.s, m.t, m.k] ++ m.a := rfl
  rw [eI]
  generalize m.p = mp at *
  generalize m.s = ms at *
  generalize m.t = mt at *
  generalize m.k = mk at *
  generalize m.A = mA at *
  generalize m.c = mc at *
  generalize m.a = ma at *
  clear e0 eI
  have s0 := bb0.size
  have ⟨H_hw0, H_bb0, H_k0, H_l0, H_hl, H_hln, H_hi, H_hz0⟩ := hid8 hw0 bb0 k0 l0 hl hln hi hz0; clear hw0 bb0 k0 l0 hl hln hi hz0; have ⟨H_hz1, H_hz2⟩ := hid2 hz1 hz2; clear hz1 hz2
  have y0 := (H_k0.out 0 _ rfl).at
  have y1 := (H_k0.out 1 _ rfl).at
  have y2 := (H_k0.out 2 _ rfl).at
  have y3 := (H_k0.out 3 _ rfl).at
  have y4 := (H_k0.out 4 _ rfl).at
  have ly := (H_k0.out 0 _ rfl).lt
  go_enter Tryd.func54, Tryd.ntmps54
  go_upto_region 1 with (fail)
  rw [H_hw0.out]
  go_wp2_with (at_builtin; refine wp_app_at _ rfl (.tmp 13) (.tmp 15) _ rfl w0.heap.size 3 i0 _ 8 Tryd.underlying45 H_hi.out H_hz0.out H_hz1.out H_hz2.out rfl .i64 (some ⟨w0.heap.size, 0, none⟩) 4 4 [mp, ms, mt, mk] rfl rfl (own_lit (w := w0) [mp, ms, mt, mk] (Nat.le_refl _) (by simp) _ rfl) mA mc n ma H_hln.out rfl (H_l0.out.alloc _) (by omega) (by omega) (by simp) ?_)
  intro A2 c2 w2 own2 g2 _
  have b2 : Below w.heap.size w w2 := (H_bb0.out.alloc s0 _).grown g2 (by simp; omega) (fun g hg => by cases hg; exact s0)
  have own3 := own2.base_le s0
  have ⟨H_own2, H_g2, H_b2, H_own3⟩ := hid4 own2 g2 b2 own3; clear own2 g2 b2 own3
  go_wp2_with fail
  go_ret
  exact ⟨A2, c2, rfl, H_own3.out, H_b2.out⟩
set_option maxHeartbeats 4000000 in
theorem rSays_any (h : Hd) (hf : HFit h) (w : World) : Calls Tryd.prog 48 #[.agg h.cells.toArray] w (New4 (sayI h) w) := by
  have e0 : h.cells.toArray = #[.int .i64 h.p, .int .i64 h.n, .int .u64 h.c, .int .i64 h.e, .int .i64 h.s] := rfl
  rw [e0]
  have fc := hf.c
  have eS : sayI h = [h.p, h.n, h.c / 4294967296, h.c % 4294967296] := rfl
  rw [eS]
  obtain ⟨w0, hw0⟩ : ∃ W, w.alloc (.cells #[.int .i64 h.p, .int .i64 h.n, .int .u64 h.c, .int .i64 h.e, .int .i64 h.s] 33) = W := ⟨_, rfl⟩
  have bb0 : Below w.heap.size w w0 := by rw [← hw0]; exact (Below.refl _ _).alloc (Nat.le_refl _) _
  have k0 : Blk w0 w.heap.size #[.int .i64 h.p, .int .i64 h.n, .int .u64 h.c, .int .i64 h.e, .int .i64 h.s] := by rw [← hw0]; exact blk_new rfl
  generalize h.p = hp at *
  generalize h.n = hn at *
  generalize h.c = hc at *
  generalize h.e = he at *
  generalize h.s = hs at *
  have fc0 := fc.1
  have fc1 := fc.2
  have t1 : hc.tdiv 4294967296 = hc / 4294967296 := Int.tdiv_eq_ediv_of_nonneg fc0
  have t2 : hc.tmod 4294967296 = hc % 4294967296 := Int.tmod_eq_emod_of_nonneg fc0
  have m1 : 0 ≤ hc / 4294967296 ∧ hc / 4294967296 ≤ 4294967295 := by omega
  have m2 : 0 ≤ hc % 4294967296 ∧ hc % 4294967296 ≤ 4294967295 := by omega
  clear e0 eS
  have ⟨H_hw0, H_bb0, H_k0, H_hf⟩ := hid4 hw0 bb0 k0 hf; clear hw0 bb0 k0 hf
  have y0 := (H_k0.out 0 _ rfl).at
  have y1 := (H_k0.out 1 _ rfl).at
  have y2 := (H_k0.out 2 _ rfl).at
  have y3 := (H_k0.out 3 _ rfl).at
  have y4 := (H_k0.out 4 _ rfl).at
  go_enter Tryd.func48, Tryd.ntmps48
  go_upto_region 1 with (fail)
  rw [H_hw0.out]
  go_wp2_with fail
  go_ret
  exact ⟨w0.heap.size, rfl, ints_lit (w := w0) [hp, hn, hc / 4294967296, hc % 4294967296] _ rfl, H_bb0.out.alloc H_bb0.out.size _⟩
set_option maxHeartbeats 4000000 in
theorem rargs_any (m : Msg) (hf : MFit m) (w : World) (hl : IntsAt w m.A .i64 m.a) :
    Calls Tryd.prog 26 #[.agg m.cells.toArray] w (OwnErr 3 .i64 (argL m) (argE m) w) := by
  obtain ⟨w0, hw0⟩ : ∃ W, w.alloc (.cells m.cells.toArray 47) = W := ⟨_, rfl⟩
  have bb0 : Below w.heap.size w w0 := by rw [← hw0]; exact (Below.refl _ _).alloc (Nat.le_refl _) _
  have k0 : Blk w0 w.heap.size m.cells.toArray := by rw [← hw0]; exact blk_new rfl
  have l0 := hl.below bb0
  have q1 := fun W h1 => rValid_any m hf W h1
  have q2 := fun h W h1 => rInts_any m h W h1
  have e0 : m.cells.toArray = #[.int .i64 m.p, .int .i64 m.s, .int .i64 m.t, .int .i64 m.k, .slice m.A m.a.length m.c] := rfl
  rw [e0] at hw0 k0 q1 q2 ⊢
  cases hm : msgB m with
  | false =>
    have eE : argE m = 1 := by rw [argE, hm]; rfl
    have eL : argL m = [] := by rw [argL, hm]; rfl
    rw [hm] at q1
    rw [eE, eL]
    have ⟨H_hw0, H_bb0, H_k0, H_l0, H_q1, H_q2, H_hm, H_eE⟩ := hid8 hw0 bb0 k0 l0 q1 q2 hm eE; clear hw0 bb0 k0 l0 q1 q2 hm eE; have ⟨H_eL, H_hf, H_hl, H_e0⟩ := hid4 eL hf hl e0; clear eL hf hl e0
    have y0 := (H_k0.out 0 _ rfl).at
    have y1 := (H_k0.out 1 _ rfl).at
    have y2 := (H_k0.out 2 _ rfl).at
    have y3 := (H_k0.out 3 _ rfl).at
    have y4 := (H_k0.out 4 _ rfl).at
    go_enter Tryd.func26, Tryd.ntmps26
    go_upto_region 1 with (fail)
    rw [H_hw0.out]
    go_wp2_with fail
    (with_reducible refine (H_q1.out _ ?_).mono ?_)
    · exact H_l0.out.below (show Below w0.heap.size w0 _ from belt)
    rintro e w1 ⟨rfl, b1⟩
    have c1 : Below w0.heap.size w0 w1 := Below.trans belt (b1.mono omh)
    have s1 := c1.size
    have bb1 := H_bb0.out.trans (c1.mono H_bb0.out.size)
    have ⟨H_b1, H_c1, H_bb1⟩ := hid3 b1 c1 bb1; clear b1 c1 bb1
    go_wp2_with fail
    go_ret2
    exact ⟨none, 0, rfl, OwnInts.nil _ _ _ _, H_bb1.out⟩
  | true =>
    have eE : argE m = 0 := by rw [argE, hm]; rfl
    have eL : argL m = msI m := by rw [argL, hm]; rfl
    rw [hm] at q1
    rw [eE, eL]
    have ml := msgB_len hm
    have hlen : (msI m).length = 4 + m.a.length := by simp [msI]; omega
    have q3 := q2 (by omega)
    generalize m.a.length = an at *
    clear q2
    have ⟨H_hw0, H_bb0, H_k0, H_l0, H_q1, H_q3, H_hm, H_eE⟩ := hid8 hw0 bb0 k0 l0 q1 q3 hm eE; clear hw0 bb0 k0 l0 q1 q3 hm eE; have ⟨H_eL, H_hf, H_hl, H_e0, H_hlen⟩ := hid5 eL hf hl e0 hlen; clear eL hf hl e0 hlen
    have y0 := (H_k0.out 0 _ rfl).at
    have y1 := (H_k0.out 1 _ rfl).at
    have y2 := (H_k0.out 2 _ rfl).at
    have y3 := (H_k0.out 3 _ rfl).at
    have y4 := (H_k0.out 4 _ rfl).at
    go_enter Tryd.func26, Tryd.ntmps26
    go_upto_region 1 with (fail)
    rw [H_hw0.out]
    go_wp2_with fail
    (with_reducible refine (H_q1.out _ ?_).mono ?_)
    · exact H_l0.out.below (show Below w0.heap.size w0 _ from belt)
    rintro e w1 ⟨rfl, b1⟩
    have c1 : Below w0.heap.size w0 w1 := Below.trans belt (b1.mono omh)
    have s1 := c1.size
    have bb1 := H_bb0.out.trans (c1.mono H_bb0.out.size)
    have k1 := H_k0.out.below c1
    have l1 := H_l0.out.below c1
    have ⟨H_b1, H_c1, H_bb1, H_k1, H_l1⟩ := hid5 b1 c1 bb1 k1 l1; clear b1 c1 bb1 k1 l1
    clear y0 y1 y2 y3 y4
    have y0 := (H_k1.out 0 _ rfl).at
    have y1 := (H_k1.out 1 _ rfl).at
    have y2 := (H_k1.out 2 _ rfl).at
    have y3 := (H_k1.out 3 _ rfl).at
    have y4 := (H_k1.out 4 _ rfl).at
    go_wp2_with fail
    (with_reducible refine (H_q3.out _ ?_).mono ?_)
    · exact H_l1.out.below (show Below w1.heap.size w1 _ from belt)
    rintro e w2 ⟨A2, c2, rfl, o2, b2⟩
    have c2 : Below w1.heap.size w1 w2 := Below.trans belt (b2.mono omh)
    have s2 := c2.size
    have bb2 := H_bb1.out.trans (c2.mono H_bb1.out.size)
    have ⟨H_b2, H_c2, H_bb2⟩ := hid3 b2 c2 bb2; clear b2 c2 bb2
    have o3 := o2.base_le H_bb1.out.size
    have ⟨H_o2, H_o3⟩ := hid2 o2 o3; clear o2 o3
    go_wp2_with fail
    go_ret2
    exact ⟨A2, c2, by rw [H_hlen.out]; rfl, H_o3.out, H_bb2.out⟩
theorem rchainL_any (A : Option Addr) (c n : Nat) (l : List Msg) (rs : List LR) (hln : rs.length = n) (hr : rs.map (·.l) = l.map msI) (w : World) (hl : ListsAt w A (rs.map (·.l))) (hn : n ≤ 1000000) (hv : ∀ m ∈ l, msgB m = true) :
    Calls Tryd.prog 63 #[.slice A n c] w fun e w' => e = .returned (.int .u64 (chI l)) ∧ Below w.heap.size w w' := by
  subst hln
  rw [hr] at hl
  have e : rs.length = (l.map msI).length := by rw [← hr, List.length_map]
  rw [e] at hn ⊢
  exact refChain_any A c _ w hl hn (msI_fits hv)
set_option maxRecDepth 100000 in
set_option maxHeartbeats 8000000 in
theorem rChainM_any (A : Option Addr) (cp n : Nat) (l : List Msg) (hln : l.length = n) (hn : n ≤ 5000) (hv : ∀ m ∈ l, msgB m = true) (w : World) (hl : Msgs w A l) :
    Calls Tryd.prog 46 #[.slice A n cp] w fun e w' => e = .returned (.int .u64 (chI l)) ∧ Below w.heap.size w w' := by
  obtain ⟨i0, hi, hz0, hz1, hz2⟩ := info_parts infoSl
  have bb1 := Below.refl w.heap.size w
  obtain ⟨w1, hw1⟩ : ∃ W, w = W := ⟨_, rfl⟩
  have l1 := hl
  rw [hw1] at l1
  rw [hw1]
  rw [hw1] at bb1
  have ⟨H_hi, H_hz0, H_hz1, H_hz2, H_hw1, H_bb1, H_l1, H_hl⟩ := hid8 hi hz0 hz1 hz2 hw1 bb1 l1 hl; clear hi hz0 hz1 hz2 hw1 bb1 l1 hl; have ⟨H_hln, H_hv⟩ := hid2 hln hv; clear hln hv
  go_enter Tryd.func46, Tryd.ntmps46
  go_upto_region 3 with (fail)
  go_loopw [3, 4] (fun o i wr => ∃ (k : Nat) (B : Option Addr) (d : Nat) (rs : List LR), k ≤ n ∧ i = .int .i64 k ∧ o = .slice B k d ∧ rs.length = k ∧ rs.map (·.l) = (l.take k).map msI ∧ LRow wr w1.heap.size B d rs ∧ Below w1.heap.size w1 wr) (fun _ i _ => n - (intOf i).toNat)
  case atStart => exact ⟨0, none, 0, [], by omega, rfl, rfl, rfl, by simp, LRow.nil _ _, Below.refl _ _⟩
  case round =>
    obtain ⟨k, B, d, rs, hk, rfl, rfl, hrk, hrs, own, bz⟩ := hrel
    have sz := bz.size
    by_cases hlt : k < n
    · have g1 : (k : Int) < (n : Int) := by omega
      have g0 : (0 : Int) ≤ (k : Int) := by omega
      have hk9 : (k : Int) < 100000 := by omega
      obtain ⟨m, hm5⟩ : ∃ m, l[k]? = some m := ⟨_, List.getElem?_eq_getElem (by rw [H_hln.out]; exact hlt)⟩
      have hmem : m ∈ l := List.mem_of_getElem? hm5
      have hmv := H_hv.out m hmem
      have ml := msgB_len hmv
      obtain ⟨b, off, rfl, hbl, ⟨hf, hmc, hmi⟩, c0, c1, c2, c3, c4⟩ := (H_l1.out.below bz).at hm5
      have snoc := take_map_snoc hm5 hrs
      have q := fun W h => rInts_any m (by omega) W h
      have hlen : (msI m).length = 4 + m.a.length := by simp [msI]; omega
      have e0 : m.cells.toArray = #[.int .i64 m.p, .int .i64 m.s, .int .i64 m.t, .int .i64 m.k, .slice m.A m.a.length m.c] := rfl
      rw [e0] at q
      clear e0
      generalize msI m = L at *
      generalize m.a.length = a at *
      have ⟨H_hrs, H_own, H_bz, H_hm5, H_hmem, H_hmv, H_hf, H_hmc⟩ := hid8 hrs own bz hm5 hmem hmv hf hmc; clear hrs own bz hm5 hmem hmv hf hmc; have ⟨H_hmi, H_snoc, H_q, H_hlen⟩ := hid4 hmi snoc q hlen; clear hmi snoc q hlen
      go_upto_region 5 with (fail)
      go_wp2_with fail
      (with_reducible refine (H_q.out _ H_hmi.out).mono ?_)
      rintro e w3 ⟨A3, c3', rfl, o3, b3⟩
      have own3 := H_own.out.below b3
      have bz3 := H_bz.out.trans (b3.mono H_bz.out.size)
      have i3 := o3.ints
      have cap3 := o3.cap
      have ne3 : blockOf A3 ≠ blockOf B := by
        obtain ⟨g, eg, _⟩ := i3.lt (by rw [H_hlen.out]; omega)
        have h1 := o3.lt g eg
        intro e
        rw [eg] at e
        have h2 := (H_own.out.1.lt g e.symm).2
        omega
      have s3 := b3.size
      clear c0 c1 c2 c3 c4
      have ⟨H_o3, H_b3, H_own3, H_bz3, H_i3, H_cap3, H_ne3⟩ := hid7 o3 b3 own3 bz3 i3 cap3 ne3; clear o3 b3 own3 bz3 i3 cap3 ne3
      go_wp2_with (at_builtin; refine wp_app_gen (At := LRAt) _ rfl (.tmp 11) (.tmp 17) _ rfl i0 _ 24 Tryd.underlying65 H_hi.out H_hz0.out H_hz1.out H_hz2.out rfl (by decide) LR.cells_len LR.cells_one (fun _ _ h => h) k hrk rfl (OwnRows.alloc H_own3.out.1 _) (some ⟨w3.heap.size, 0, none⟩) 1 1 [⟨A3, c3', L⟩] rfl rfl (rows_new1 (At := LRAt) _ ⟨A3, c3', L⟩ _ _ _ rfl rfl (by show _ = LR.cells _; rw [LR.cells, H_hlen.out])) (by unfold maxLen; omega) (by omega) (by simp; omega) ?_)
      intro B4 d4 w4 own4 g4 hB4
      have row4 := H_own3.out.grow (r := ⟨A3, c3', L⟩) (w2 := w3.alloc (.cells #[.slice A3 (4 + a) c3'] 45)) (by show 0 < L.length; rw [H_hlen.out]; omega) H_cap3.out H_i3.out H_ne3.out (by rw [H_hlen.out]) own4 g4 (by rw [World.size_alloc]; exact hB4)
      have bz4 : Below w1.heap.size w1 w4 := (H_bz3.out.alloc H_bz3.out.size _).grown g4 (by simp; have := H_bz3.out.size; omega) (fun g hg => (H_own3.out.1.lt g hg).1)
      have sn4 := H_snoc.out ⟨A3, c3', L⟩ rfl
      have len4 : (rs ++ [(⟨A3, c3', L⟩ : LR)]).length = k + 1 := by rw [List.length_append, hrk]; rfl
      have ⟨H_own4, H_g4, H_hB4, H_row4, H_bz4, H_sn4, H_len4⟩ := hid7 own4 g4 hB4 row4 bz4 sn4 len4; clear own4 g4 hB4 row4 bz4 sn4 len4
      go_wp2_with fail
      go_roundw
      case rel => exact ⟨k + 1, B4, d4, _, by omega, by go_num, by rfl, H_len4.out, H_sn4.out, H_row4.out, H_bz4.out⟩
      case measure => simp [intOf]; omega
    · have g1 : ¬ (k : Int) < (n : Int) := by omega
      have hkn : k = n := by omega
      subst hkn
      rw [List.take_of_length_le (by rw [H_hln.out]; exact Nat.le_refl _)] at hrs
      have bbz := H_bb1.out.trans (bz.mono H_bb1.out.size)
      have q := rchainL_any B d k l rs hrk hrs wr own.lists (by omega) H_hv.out
      generalize hC : chI l = C at q
      have ⟨H_hrs, H_own, H_bz, H_bbz, H_q, H_hC⟩ := hid6 hrs own bz bbz q hC; clear hrs own bz bbz q hC
      go_wp2_with fail
      (with_reducible refine H_q.out.mono ?_)
      rintro e w5 ⟨rfl, b5⟩
      have bb5 := H_bbz.out.trans (b5.mono H_bbz.out.size)
      have ⟨H_b5, H_bb5⟩ := hid2 b5 bb5; clear b5 bb5
      go_wp2_with fail
      go_ret
      exact ⟨by rw [H_hC.out]; rfl, H_bb5.out⟩
end Go.Proofs.YtmbmejclnagffaaDoor

/- The statements about money: rate. -/
import Derived.Test.YtaloadadecoogaaDoorMnY
namespace Go.Proofs.YtaloadadecoogaaDoor
set_option linter.unusedSimpArgs false
set_option linter.unusedVariables false
set_option maxRecDepth 100000
open Go.RowKit Go.Maps

/-- the rate from a currency to another one, and whether there is one -/
def rtN (l : List Exc) (a b : Int) : Int := match fndX l a b with | none => 0 | some x => x.n
def rtD (l : List Exc) (a b : Int) : Int := match fndX l a b with | none => 0 | some x => x.d
def rtB (l : List Exc) (a b : Int) : Bool := (fndX l a b).isSome
set_option maxRecDepth 100000 in
set_option maxHeartbeats 8000000 in
theorem lrate_any (A : Option Addr) (cp n : Nat) (l : List Exc) (c t : Int) (hln : l.length = n) (hn : n ≤ 100000) (w : World) (hl : Excs w A l) :
    Calls Tryd.prog 21 #[.slice A n cp, .int .i64 c, .int .i64 t] w fun e w' => e = .returned (.tuple #[.agg #[.int .i64 (rtN l c t), .int .i64 (rtD l c t)], .bool (rtB l c t)]) ∧ Below w.heap.size w w' := by
  obtain ⟨w1, hw1⟩ : ∃ W, w.alloc (.cells #[.int .i64 0, .int .i64 0] 40) = W := ⟨_, rfl⟩
  have bb1 : Below w.heap.size w w1 := by rw [← hw1]; exact (Below.refl _ _).alloc (Nat.le_refl _) _
  have r1 : Blk w1 w.heap.size #[.int .i64 0, .int .i64 0] := by rw [← hw1]; exact blk_new rfl
  have H_hw1 := Lib.hid hw1; clear hw1; have H_bb1 := Lib.hid bb1; clear bb1; have H_r1 := Lib.hid r1; clear r1; have H_hln := Lib.hid hln; clear hln; have H_hl := Lib.hid hl; clear hl
  go_enter Tryd.func21, Tryd.ntmps21
  go_upto_region 2 with (fail)
  rw [H_hw1.out]
  go_loopw [12] (fun i W => ∃ j : Nat, j ≤ n ∧ i = .int .i64 j ∧ (∀ y ∈ l.take j, ¬ (y.f = c ∧ y.t = t)) ∧ Below w1.heap.size w1 W) (fun i _ => n - (intOf i).toNat)
  case atStart => exact ⟨0, by omega, rfl, fun x hx => by simp at hx, Below.refl _ _⟩
  case round =>
    obtain ⟨j, hj, rfl, hno, bz⟩ := hrel
    have bbz := H_bb1.out.trans (bz.mono H_bb1.out.size)
    have lz1 := H_hl.out.below bbz
    have rz := H_r1.out.below bz
    by_cases hjn : j < n
    · have j1 : (j : Int) < (n : Int) := by omega
      have j0 : (0 : Int) ≤ (j : Int) := by omega
      have jz : (j : Int) < 100000 := by omega
      obtain ⟨x, hx5⟩ : ∃ x, l[j]? = some x := ⟨_, List.getElem?_eq_getElem (by rw [H_hln.out]; omega)⟩
      obtain ⟨b2, off2, rfl, hbl2, hf2, x0, x1, x2, x3⟩ := lz1.at hx5
      have snoc := fun h1 => take_all_snoc (P := fun y : Exc => ¬ (y.f = c ∧ y.t = t)) hx5 hno h1
      have H_bz := Lib.hid bz; clear bz; have H_bbz := Lib.hid bbz; clear bbz; have H_lz1 := Lib.hid lz1; clear lz1; have H_rz := Lib.hid rz; clear rz; have H_hno := Lib.hid hno; clear hno; have H_hx5 := Lib.hid hx5; clear hx5; have H_hf2 := Lib.hid hf2; clear hf2; have H_snoc := Lib.hid snoc; clear snoc
      go_upto_region 4 with (fail)
      obtain ⟨w3, hw3⟩ : ∃ W, wr.alloc (.cells #[.int .i64 x.f, .int .i64 x.t, .int .i64 x.n, .int .i64 x.d] 53) = W := ⟨_, rfl⟩
      rw [hw3]
      have c3 : Below wr.heap.size wr w3 := by rw [← hw3]; exact (Below.refl _ _).alloc (Nat.le_refl _) _
      have v3 : Blk w3 wr.heap.size #[.int .i64 x.f, .int .i64 x.t, .int .i64 x.n, .int .i64 x.d] := by rw [← hw3]; exact blk_new rfl
      have bb3 := H_bbz.out.trans (c3.mono H_bbz.out.size)
      have b3 := H_bz.out.trans (c3.mono H_bz.out.size)
      have r3 := H_rz.out.below c3
      clear x0 x1 x2 x3
      have H_hw3 := Lib.hid hw3; clear hw3; have H_c3 := Lib.hid c3; clear c3; have H_v3 := Lib.hid v3; clear v3; have H_bb3 := Lib.hid bb3; clear bb3; have H_b3 := Lib.hid b3; clear b3; have H_r3 := Lib.hid r3; clear r3
      have y0 := (H_v3.out 0 _ rfl).at
      have y1 := (H_v3.out 1 _ rfl).at
      have y2 := (H_v3.out 2 _ rfl).at
      have y3 := (H_v3.out 3 _ rfl).at
      have ly := (H_v3.out 0 _ rfl).lt
      by_cases c1 : x.f = c
      · have d1 : (x.f == c) = true := by simp [c1]
        by_cases c2 : x.t = t
        · have d2 : (x.t == t) = true := by simp [c2]
          have hf := fnd_at H_hx5.out H_hno.out c1 c2
          have eN : rtN l c t = x.n := by rw [rtN, hf]
          have eD : rtD l c t = x.d := by rw [rtD, hf]
          have eB : rtB l c t = true := by rw [rtB, hf]; rfl
          have H_c1 := Lib.hid c1; clear c1; have H_c2 := Lib.hid c2; clear c2; have H_hf := Lib.hid hf; clear hf; have H_eN := Lib.hid eN; clear eN; have H_eD := Lib.hid eD; clear eD; have H_eB := Lib.hid eB; clear eB
          go_upto_region 5 with (fail)
          have gw9 : Below w.heap.size w (putL w3 w.heap.size 0 [.int .i64 x.n, .int .i64 x.d]) := putL_below (by omega) _ _ _ H_bb3.out
          simp only [putL, Nat.reduceAdd] at gw9
          have H_gw9 := Lib.hid gw9; clear gw9
          have lr := (H_r3.out 0 _ rfl).lt
          have z0 := (H_r3.out 0 _ rfl).at
          have z1 := (H_r3.out 1 _ rfl).at
          have f0 := (H_r3.out 0 _ rfl).free
          have f1 := (H_r3.out 1 _ rfl).free
          go_wp2_with fail
          refine bodyPost_ret (v := .tuple #[.agg #[.int .i64 x.n, .int .i64 x.d], .bool true]) (by simp [results, Tryd.results21, go_sem, *]) rfl ⟨by rw [H_eN.out, H_eD.out, H_eB.out], H_gw9.out⟩
        · have d2 : (x.t == t) = false := by simp [c2]
          have h9 := H_snoc.out (fun h => c2 h.2)
          have H_c1 := Lib.hid c1; clear c1; have H_c2 := Lib.hid c2; clear c2; have H_h9 := Lib.hid h9; clear h9
          go_wp2_with fail
          go_roundw
          case rel => exact ⟨j + 1, by omega, by go_num, H_h9.out, H_b3.out⟩
          case measure => simp [intOf]; omega
      · have d1 : (x.f == c) = false := by simp [c1]
        have h9 := H_snoc.out (fun h => c1 h.1)
        have H_c1 := Lib.hid c1; clear c1; have H_h9 := Lib.hid h9; clear h9
        go_wp2_with fail
        go_roundw
        case rel => exact ⟨j + 1, by omega, by go_num, H_h9.out, H_b3.out⟩
        case measure => simp [intOf]; omega
    · have j1 : ¬ (j : Int) < (n : Int) := by omega
      rw [List.take_of_length_le (by rw [H_hln.out]; omega)] at hno
      have hf := fnd_not hno
      have eN : rtN l c t = 0 := by rw [rtN, hf]
      have eD : rtD l c t = 0 := by rw [rtD, hf]
      have eB : rtB l c t = false := by rw [rtB, hf]; rfl
      have H_bz := Lib.hid bz; clear bz; have H_bbz := Lib.hid bbz; clear bbz; have H_lz1 := Lib.hid lz1; clear lz1; have H_rz := Lib.hid rz; clear rz; have H_hno := Lib.hid hno; clear hno; have H_hf := Lib.hid hf; clear hf; have H_eN := Lib.hid eN; clear eN; have H_eD := Lib.hid eD; clear eD; have H_eB := Lib.hid eB; clear eB
      go_upto_region 7 with (fail)
      have gw9 : Below w.heap.size w (putL wr w.heap.size 0 [.int .i64 0, .int .i64 0]) := putL_below (by omega) _ _ _ H_bbz.out
      simp only [putL, Nat.reduceAdd] at gw9
      have H_gw9 := Lib.hid gw9; clear gw9
      have lr := (H_rz.out 0 _ rfl).lt
      have z0 := (H_rz.out 0 _ rfl).at
      have z1 := (H_rz.out 1 _ rfl).at
      have f0 := (H_rz.out 0 _ rfl).free
      have f1 := (H_rz.out 1 _ rfl).free
      go_wp2_with fail
      refine bodyPost_ret (v := .tuple #[.agg #[.int .i64 0, .int .i64 0], .bool false]) (by simp [results, Tryd.results21, go_sem, *]) rfl ⟨by rw [H_eN.out, H_eD.out, H_eB.out], H_gw9.out⟩
end Go.Proofs.YtaloadadecoogaaDoor

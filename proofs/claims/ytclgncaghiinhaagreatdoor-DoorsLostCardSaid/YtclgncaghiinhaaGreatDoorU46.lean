/- The statements about doors: guest, head. -/
import Derived.Test.YtclgncaghiinhaaGreatDoorU37
import Derived.Test.YtclgncaghiinhaaGreatDoorU41
import Derived.Test.YtclgncaghiinhaaGreatDoorU42
import Derived.Test.YtclgncaghiinhaaGreatDoorU45
set_option linter.unusedSimpArgs false
set_option linter.unusedVariables false
set_option maxRecDepth 100000
namespace Go.Proofs.YtclgncaghiinhaaGreatDoor
open Go.RowKit
/-- a literal slice of structs -/
theorem rows_lit {α : Type} {C : Nat} {cells : α → List Value} {At : World → List Value → α → Prop} (w : World) (l : List α) (vs : Array Value) (t : TypeId) (n : Nat) (hn : w.heap.size = n) (hC : ∀ z, (cells z).length = C) (hv : vs.toList = l.flatMap cells) (hat : ∀ z ∈ l, At (w.alloc (.cells vs t)) (cells z) z) : RowsAt C At (w.alloc (.cells vs t)) (some ⟨n, 0, none⟩) l := fun i z hz => by
 subst hn
 refine ⟨w.heap.size, 0, cells z, rfl, by simp, hC z, fun j hj => ?_, hat z (List.mem_of_getElem? hz)⟩
 rw [Nat.zero_add, cell_of_row _ _ _ _ _ _ (heap_alloc_new w _), ← Array.getElem?_toList, hv, flat_get hC l i j z hj hz]
theorem sh4_len (s : Sh4) : s.cells.length = 4 := rfl
set_option maxHeartbeats 4000000 in
theorem lguest38_any (id n : Int) (h1 : 1 ≤ id ∧ id ≤ 1000000) (h2 : 1 ≤ n ∧ n ≤ 1000000000) (w : World) (ht : Tab w) :
  Calls Tryz.prog 21 #[.int .i64 id, .int .i64 n] w fun e w' => e = .returned (.tuple #[.agg (hc4 id n).cells.toArray, .bool true]) ∧ Below w.heap.size w w' := by
 obtain ⟨w0, hw0⟩ : ∃ W, w.alloc (.cells #[.int .i64 0, .int .i64 0, .int .i64 0, .int .i64 0, .int .i64 0, .int .i64 0, .int .i64 0, .int .i64 0, .int .i64 0] 28) = W := ⟨_, rfl⟩
 have bb0 : Below w.heap.size w w0 := by rw [← hw0]; exact (Below.refl _ _).alloc (Nat.le_refl _) _
 have g0 : Blk w0 w.heap.size #[.int .i64 0, .int .i64 0, .int .i64 0, .int .i64 0, .int .i64 0, .int .i64 0, .int .i64 0, .int .i64 0, .int .i64 0] := by rw [← hw0]; exact blk_new rfl
 have q1 := cmake_any (gc id n) 5 6 (gc_fit (by omega) (by omega)) w0 (ht.below bb0)
 have e1 : mkdE (gc id n) 5 6 = 0 := by rw [mkdE, if_pos (hc4_may h1 h2)]
 rw [e1] at q1
 unfold hc4
 generalize mkdC (gc id n) 5 6 = C at *
 unfold Crd.cells at q1 ⊢
 simp only [gc] at q1
 clear e1
 have ⟨Hbb0, Hg0, Hhw0, Hq1, Hht, Hh1, Hh2⟩ := hid7 bb0 g0 hw0 q1 ht h1 h2; clear bb0 g0 hw0 q1 ht h1 h2
 go_enter Tryz.func21, Tryz.ntmps21
 go_wp2_with fail
 rw [Hhw0.out]
 go_wp2_with fail
 (with_reducible refine (Hq1.out).mono ?_)
 rintro e w1 ⟨rfl, b1⟩
 have c1 : Below w0.heap.size w0 w1 := Below.trans belt (b1.mono omh)
 have s1 := c1.size
 have bb1 := Hbb0.out.trans (c1.mono Hbb0.out.size)
 have g1 := Hg0.out.below c1
 have ⟨Hb1, Hc1, Hbb1, Hg1⟩ := hid4 b1 c1 bb1 g1; clear b1 c1 bb1 g1
 obtain ⟨z0, z1, z2, z3, z4, z5, z6, z7, z8⟩ := at9_of Hg1.out
 obtain ⟨f0, f1, f2, f3, f4, f5, f6, f7, f8⟩ := free9_of Hg1.out
 have lz := (Hg1.out 0 _ rfl).lt
 have b2 : Below w.heap.size w ((putL w1 w.heap.size 0 [.int .i64 C.i, .int .i64 C.k, .int .i64 C.d, .int .i64 C.n, .int .i64 C.f, .int .i64 C.u, .int .i64 C.l, .int .i64 C.e, .int .i64 C.s]).alloc (.cells #[.int .i64 C.i, .int .i64 C.k, .int .i64 C.d, .int .i64 C.n, .int .i64 C.f, .int .i64 C.u, .int .i64 C.l, .int .i64 C.e, .int .i64 C.s] 28)) := (putL_below (Nat.le_refl _) _ _ _ Hbb1.out).alloc (by rw [putL_size]; exact Hbb1.out.size) _
 simp only [putL, Nat.reduceAdd] at b2
 have Hb2 := Lib.hid b2; clear b2
 go_wp2_with fail
 refine bodyPost_ret (v := .tuple #[.agg #[.int .i64 C.i, .int .i64 C.k, .int .i64 C.d, .int .i64 C.n, .int .i64 C.f, .int .i64 C.u, .int .i64 C.l, .int .i64 C.e, .int .i64 C.s], .bool true]) (by simp [results, Tryz.results21, go_sem, *]) rfl ⟨rfl, Hb2.out⟩
/-- the showings of the example -/
def sh1 : List Sh4 := [⟨0, 0, 50, 3⟩, ⟨0, 1, 51, 3⟩, ⟨0, 0, 52, 3⟩, ⟨0, 1, 90, 3⟩]
def sh2 : List Sh4 := [⟨0, 0, 50, 3⟩, ⟨0, 1, 51, 1⟩, ⟨0, 0, 52, 3⟩]
def sh3 : List Sh4 := [⟨0, 0, 50, 3⟩, ⟨0, 1, 51, 2⟩, ⟨0, 0, 52, 3⟩, ⟨0, 1, 53, 3⟩]
def sh4 : List Sh4 := [⟨0, 2, 50, 3⟩]
theorem ex_good {a b : Crd} {ss : List Sh4} (ha : cvB a = true) (hb : cvB b = true) (hs : noneW 1 2 ss = true) : runB [nl 4] [a, b] ss = true := by
 have h1 : lksB [nl 4] = true := by simp [lksB, lv_nl (d := 4) (by omega)]
 have h2 : cdsB [a, b] = true := by simp [cdsB, allV, ha, hb]
 rw [runB, h1, h2]; simpa using hs
theorem ex_run {a b : Crd} {ss : List Sh4} (ha : Hc4 a 7 3) (hb : Hc4 b 8 4) (hs : noneW 1 2 ss = true) (hl : ss.length ≤ 10) : runN [nl 4] [a, b] ss = 0 ∧ runW [nl 4] [a, b] ss = exO [a, b] 4 1024 [] (ss.map Sh4.shw) := by
 have hg := ex_good ha.v hb.v hs
 refine ⟨by rw [runN, if_pos hg], ?_⟩
 rw [runW, if_pos hg]
 refine exact_run _ _ _ _ (bef_nl (by omega)) (fun s hs' => ?_) (by simp; omega)
 obtain ⟨x, hx, rfl⟩ := List.mem_map.1 hs'
 have g := none_iff.1 hs x hx
 have ga := g.a0; have ga1 := g.a1; have gb := g.b0; have gb1 := g.b1
 refine ⟨by show x.a.toNat = 0; omega, ?_, g.t, g.d0, g.d1⟩
 have hj : x.b.toNat = 0 ∨ x.b.toNat = 1 := by omega
 show cvB (cdD [a, b] x.b.toNat) = true
 rcases hj with h | h <;> rw [h]
 ·exact ha.v
 ·exact hb.v
theorem ex_vals {a b : Crd} (ha : Hc4 a 7 3) (hb : Hc4 b 8 4) : exO [a, b] 4 1024 [] (sh1.map Sh4.shw) = [true, true, false, false] ∧ exO [a, b] 4 1024 [] (sh2.map Sh4.shw) = [true, false, true] ∧ exO [a, b] 4 1024 [] (sh3.map Sh4.shw) = [true, false, false, true] := by
 have c0 : cdD [a, b] 0 = a := rfl
 have c1 : cdD [a, b] 1 = b := rfl
 refine ⟨?_, ?_, ?_⟩ <;> simp [sh1, sh2, sh3, Sh4.shw, exO, nxtB, opnB, mayD, cntD, rvkD, newD, inD, c0, c1, ha.i, ha.k, ha.d, ha.n, ha.f, ha.u, ha.g, hb.i, hb.k, hb.d, hb.n, hb.f, hb.u, hb.g]
theorem ex_may {a b : Crd} (ha : Hc4 a 7 3) (hb : Hc4 b 8 4) : mayE [a] a 1024 50 = 0 ∧ mayR [a] a 1024 50 = true ∧ mayE [a, b] a 1024 50 = 0 ∧ mayR [a, b] a 1024 50 = false := by
 have t50 : timeB 50 = true := by decide
 have v1 : mayV [a] a 1024 50 = true := by simp [mayV, cdsB, allV, ha.v, hmem1024, t50]
 have v2 : mayV [a, b] a 1024 50 = true := by simp [mayV, cdsB, allV, ha.v, hb.v, hmem1024, t50]
 refine ⟨by rw [mayE, if_pos v1], ?_, by rw [mayE, if_pos v2], ?_⟩
 ·rw [mayR, v1, may_is]; simp [mayD, rvkD, newD, inD, ha.i, ha.k, ha.n, ha.f, ha.u, ha.g]
 ·rw [mayR, v2, may_is]; simp [mayD, rvkD, newD, inD, ha.i, ha.k, ha.n, ha.f, ha.u, ha.g, hb.i, hb.k, hb.n]
end Go.Proofs.YtclgncaghiinhaaGreatDoor

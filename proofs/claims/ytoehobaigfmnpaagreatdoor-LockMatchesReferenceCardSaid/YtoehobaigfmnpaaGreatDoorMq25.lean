/- slices.Insert of one integer into a list of its own memory (the shelf's four roads joined). -/
import Derived.Shelf.Spec.SlicesInsert
import Derived.Shelf.Spec.SlicesInsertGrow
import Derived.Test.YtoehobaigfmnpaaGreatDoorMq4
import Derived.Test.YtoehobaigfmnpaaGreatDoorMq20
import Derived.Test.YtoehobaigfmnpaaGreatDoorMq24
set_option linter.unusedSimpArgs false
set_option linter.unusedVariables false
set_option maxRecDepth 100000
namespace Go.Proofs.YtoehobaigfmnpaaGreatDoor
open Go.RowKit
theorem kept_as (l : Lk) (A : Option Addr) (n p : Nat) (B : Option Addr) (m q : Nat) (w : World) (hx : SlotIs w A n l.x) (hy : SlotIs w B m l.y) (ht : Tab w) :
  ∃ K t, SlotIs w K (keepS l).l.length (keepS l) ∧ ∀ W, Below w.heap.size w W → Calls Tryz.prog 27 #[.agg (l.cells A n p B m q).toArray] W fun e w' => e = .returned (.tuple #[.agg #[.int .i64 (keepS l).s, .int .i64 (keepS l).c, .slice K (keepS l).l.length t, .int .u64 (keepS l).u], .bool (bestB l.x l.y)]) ∧ Below W.heap.size W w' := by
 have hn := hx.len
 have hm := hy.len
 subst hn hm
 by_cases h : bestI l.x l.y = 1
 ·have e : keepS l = l.y := by rw [keepS, if_pos h]
  rw [e]
  refine ⟨B, q, hy, fun W hW => ?_⟩
  have := kept_any l A _ p B _ q W (hx.below hW) (hy.below hW) (ht.below hW)
  rw [if_pos h] at this
  exact this
 ·have e : keepS l = l.x := by rw [keepS, if_neg h]
  rw [e]
  refine ⟨A, p, hx, fun W hW => ?_⟩
  have := kept_any l A _ p B _ q W (hx.below hW) (hy.below hW) (ht.below hW)
  rw [if_neg h] at this
  exact this
def aftC (l : Lk) (c : Crd) : Int := if c.k = 1 then max (keepS l).c c.n else (keepS l).c
def AftPost (x : Int) (L : List Int) (w : World) (e : Ending) (w' : World) : Prop := ∃ K t, e = .returned (.tuple #[.int .i64 x, .slice K L.length t]) ∧ IntsAt w' K .i64 L ∧ Below w.heap.size w w'
set_option maxHeartbeats 4000000 in
theorem guest_any (l : Lk) (c : Crd) (A : Option Addr) (n p : Nat) (B : Option Addr) (m q : Nat) (w : World) (hx : SlotIs w A n l.x) (hy : SlotIs w B m l.y) (ht : Tab w) :
  Calls Tryz.prog 66 #[.agg (l.cells A n p B m q).toArray, .agg c.cells.toArray] w (AftPost (max (keepS l).c c.n) (keepS l).l w) := by
 obtain ⟨w0, hw0⟩ : ∃ W, (w.alloc (.cells (l.cells A n p B m q).toArray 56)).alloc (.cells c.cells.toArray 32) = W := ⟨_, rfl⟩
 have bb0 : Below w.heap.size w w0 := by rw [← hw0]; exact ((Below.refl _ _).alloc (Nat.le_refl _) _).alloc (by simp) _
 have k0 : Blk w0 w.heap.size (l.cells A n p B m q).toArray := by rw [← hw0]; exact (blk_new rfl).alloc _
 have g0 : Blk w0 (w.heap.size + 1) c.cells.toArray := by rw [← hw0]; exact blk_new (by simp)
 obtain ⟨K, t, hs, q1⟩ := kept_as l A n p B m q w hx hy ht
 generalize keepS l = s at *
 generalize bestB l.x l.y = T at *
 unfold Lk.cells at k0 hw0 q1 ⊢
 unfold Crd.cells at g0 hw0 ⊢
 have ⟨H_bb0, H_k0, H_g0, H_hw0, H_q1, H_hx, H_hy, H_ht⟩ := hid8 bb0 k0 g0 hw0 q1 hx hy ht; clear bb0 k0 g0 hw0 q1 hx hy ht; have H_hs := Lib.hid hs; clear hs
 go_enter Tryz.func66, Tryz.ntmps66
 go_wp2_with fail
 rw [H_hw0.out]
 obtain ⟨y0, y1, y2, y3, y4, y5, y6, y7, y8, y9, y10, y11⟩ := at12_of H_k0.out
 go_wp2_with fail
 (with_reducible refine (H_q1.out _ ?_).mono ?_)
 ·exact H_bb0.out
 rintro e w1 ⟨rfl, b1⟩
 have c1 : Below w0.heap.size w0 w1 := Below.trans belt (b1.mono omh)
 have s1 := c1.size
 have bb1 := H_bb0.out.trans (c1.mono H_bb0.out.size)
 have k1 := H_k0.out.below c1
 have g1 := H_g0.out.below c1
 have ⟨H_b1, H_c1, H_bb1, H_k1, H_g1⟩ := hid5 b1 c1 bb1 k1 g1; clear b1 c1 bb1 k1 g1
 clear y0 y1 y2 y3 y4 y5 y6 y7 y8 y9 y10 y11
 go_upto_region 2 with (fail)
 obtain ⟨w2, hw2⟩ : ∃ W, w1.alloc (.cells #[.int .i64 s.s, .int .i64 s.c, .slice K s.l.length t, .int .u64 s.u] 25) = W := ⟨_, rfl⟩
 rw [hw2]
 have o2 : Blk w2 w1.heap.size #[.int .i64 s.s, .int .i64 s.c, .slice K s.l.length t, .int .u64 s.u] := by rw [← hw2]; exact blk_new rfl
 have b2 : Below w1.heap.size w1 w2 := by rw [← hw2]; exact (Below.refl _ _).alloc (Nat.le_refl _) _
 have g2 := H_g1.out.below b2
 have bb2 := H_bb1.out.trans (b2.mono H_bb1.out.size)
 have ⟨H_o2, H_b2, H_g2, H_bb2, H_hw2⟩ := hid5 o2 b2 g2 bb2 hw2; clear o2 b2 g2 bb2 hw2
 obtain ⟨x0, x1, x2, x3⟩ := at4_of H_o2.out
 obtain ⟨z0, z1, z2, z3, z4, z5, z6, z7, z8⟩ := at9_of H_g2.out
 have lo := (H_o2.out 0 _ rfl).lt
 have lz := (H_g2.out 0 _ rfl).lt
 go_region_held3 (fun W => (∀ b o, b < w2.heap.size → W.cell? ⟨b, o, none⟩ = w2.cell? ⟨b, o, none⟩) ∧ Below w2.heap.size w2 W) (first | (refine ext_mk ?_; exact belt)) (fail)
 all_goals
  have gF : Below w2.heap.size w2 _ := And.right (by assumption)
  go_wp2_with fail
  go_ret2
  exact ⟨K, t, by first | rfl | (simp; done), (H_hs.out.below (H_bb2.out.trans (gF.mono H_bb2.out.size))).ints, H_bb2.out.trans (gF.mono H_bb2.out.size)⟩
set_option maxHeartbeats 4000000 in
theorem staff_any (l : Lk) (c : Crd) (A : Option Addr) (n p : Nat) (B : Option Addr) (m q : Nat) (w : World) (hx : SlotIs w A n l.x) (hy : SlotIs w B m l.y) (ht : Tab w) :
  Calls Tryz.prog 67 #[.agg (l.cells A n p B m q).toArray, .agg c.cells.toArray] w (AftPost (keepS l).c (keepS l).l w) := by
 obtain ⟨w0, hw0⟩ : ∃ W, (w.alloc (.cells (l.cells A n p B m q).toArray 56)).alloc (.cells c.cells.toArray 32) = W := ⟨_, rfl⟩
 have bb0 : Below w.heap.size w w0 := by rw [← hw0]; exact ((Below.refl _ _).alloc (Nat.le_refl _) _).alloc (by simp) _
 have k0 : Blk w0 w.heap.size (l.cells A n p B m q).toArray := by rw [← hw0]; exact (blk_new rfl).alloc _
 have g0 : Blk w0 (w.heap.size + 1) c.cells.toArray := by rw [← hw0]; exact blk_new (by simp)
 obtain ⟨K, t, hs, q1⟩ := kept_as l A n p B m q w hx hy ht
 generalize keepS l = s at *
 generalize bestB l.x l.y = T at *
 unfold Lk.cells at k0 hw0 q1 ⊢
 unfold Crd.cells at g0 hw0 ⊢
 have ⟨H_bb0, H_k0, H_g0, H_hw0, H_q1, H_hx, H_hy, H_ht⟩ := hid8 bb0 k0 g0 hw0 q1 hx hy ht; clear bb0 k0 g0 hw0 q1 hx hy ht; have H_hs := Lib.hid hs; clear hs
 go_enter Tryz.func67, Tryz.ntmps67
 go_wp2_with fail
 rw [H_hw0.out]
 obtain ⟨y0, y1, y2, y3, y4, y5, y6, y7, y8, y9, y10, y11⟩ := at12_of H_k0.out
 go_wp2_with fail
 (with_reducible refine (H_q1.out _ ?_).mono ?_)
 ·exact H_bb0.out
 rintro e w1 ⟨rfl, b1⟩
 have c1 : Below w0.heap.size w0 w1 := Below.trans belt (b1.mono omh)
 have s1 := c1.size
 have bb1 := H_bb0.out.trans (c1.mono H_bb0.out.size)
 have k1 := H_k0.out.below c1
 have g1 := H_g0.out.below c1
 have ⟨H_b1, H_c1, H_bb1, H_k1, H_g1⟩ := hid5 b1 c1 bb1 k1 g1; clear b1 c1 bb1 k1 g1
 clear y0 y1 y2 y3 y4 y5 y6 y7 y8 y9 y10 y11
 go_upto_region 2 with (fail)
 obtain ⟨w2, hw2⟩ : ∃ W, w1.alloc (.cells #[.int .i64 s.s, .int .i64 s.c, .slice K s.l.length t, .int .u64 s.u] 25) = W := ⟨_, rfl⟩
 rw [hw2]
 have o2 : Blk w2 w1.heap.size #[.int .i64 s.s, .int .i64 s.c, .slice K s.l.length t, .int .u64 s.u] := by rw [← hw2]; exact blk_new rfl
 have b2 : Below w1.heap.size w1 w2 := by rw [← hw2]; exact (Below.refl _ _).alloc (Nat.le_refl _) _
 have g2 := H_g1.out.below b2
 have bb2 := H_bb1.out.trans (b2.mono H_bb1.out.size)
 have ⟨H_o2, H_b2, H_g2, H_bb2, H_hw2⟩ := hid5 o2 b2 g2 bb2 hw2; clear o2 b2 g2 bb2 hw2
 obtain ⟨x0, x1, x2, x3⟩ := at4_of H_o2.out
 obtain ⟨z0, z1, z2, z3, z4, z5, z6, z7, z8⟩ := at9_of H_g2.out
 have lo := (H_o2.out 0 _ rfl).lt
 have lz := (H_g2.out 0 _ rfl).lt
 go_region_held3 (fun W => (∀ b o, b < w2.heap.size → W.cell? ⟨b, o, none⟩ = w2.cell? ⟨b, o, none⟩) ∧ Below w2.heap.size w2 W) (first | (refine ext_mk ?_; exact belt)) (fail)
 all_goals
  have gF : Below w2.heap.size w2 _ := And.right (by assumption)
  go_wp2_with fail
  go_ret2
  exact ⟨K, t, by first | rfl | (simp; done), (H_hs.out.below (H_bb2.out.trans (gF.mono H_bb2.out.size))).ints, H_bb2.out.trans (gF.mono H_bb2.out.size)⟩
def insRen : Go.Shelf.Ren := ⟨fun | 21 => 88 | 27 => 102 | 28 => 103 | 35 => 109 | 39 => 111 | n => n, fun | 22 => 22 | 3 => 3 | 4 => 4 | 0 => 0 | n => n, fun | n => n⟩
theorem insLays : Go.Proofs.Lays2.n21 Tryz.prog insRen := {
 mixed := by kernel_rfl
 f21 := Tryz.func88.trans (congrArg some (by kernel_rfl))
 f27 := Tryz.func102.trans (congrArg some (by kernel_rfl))
 f28 := Tryz.func103.trans (congrArg some (by kernel_rfl))
 f35 := Tryz.func109.trans (congrArg some (by kernel_rfl))
 f39 := Tryz.func111.trans (congrArg some (by kernel_rfl))
 t0 := Tryz.underlying0
 a0 := Tryz.isAgg0
 z0 := Tryz.sizeOf0
 v0 := Tryz.zeroValue0
 t3 := Tryz.underlying3
 a3 := Tryz.isAgg3
 z3 := Tryz.sizeOf3
 v3 := Tryz.zeroValue3
 t4 := Tryz.underlying4
 a4 := Tryz.isAgg4
 z4 := Tryz.sizeOf4
 v4 := Tryz.zeroValue4
 t22 := Tryz.underlying22
 a22 := Tryz.isAgg22
 z22 := Tryz.sizeOf22
 v22 := Tryz.zeroValue22
 i3 := by kernel_rfl }
def insL (l : List Int) (i : Nat) (x : Int) : List Int := l.take i ++ x :: l.drop i
theorem insL_len (l : List Int) (i : Nat) (x : Int) : (insL l i x).length = l.length + 1 := by
 simp only [insL, List.length_append, List.length_take, List.length_cons, List.length_drop]; omega
theorem insL_getD (l : List Int) (i : Nat) (x : Int) (hi : i ≤ l.length) (j : Nat) : (insL l i x).getD j 0 = if j < i then l.getD j 0 else if j = i then x else l.getD (j - 1) 0 := by
 have ht : (l.take i).length = i := by rw [List.length_take]; omega
 simp only [insL, List.getD_eq_getElem?_getD]
 by_cases h1 : j < i
 ·rw [if_pos h1, List.getElem?_append_left (by omega), List.getElem?_take_of_lt h1]
 ·rw [if_neg h1, List.getElem?_append_right (by omega), ht]
  by_cases h2 : j = i
  ·subst h2; simp
  ·obtain ⟨k, hk⟩ : ∃ k, j - i = k + 1 := ⟨j - i - 1, by omega⟩
   rw [if_neg h2, hk, List.getElem?_cons_succ, List.getElem?_drop, show i + k = j - 1 by omega]
theorem ints_of_row {W : World} {g : Nat} {L : List Int} (hlt : g < W.heap.size) (h : ∀ j, j < L.length → W.cell? ⟨g, j, none⟩ = some (.int .i64 (L.getD j 0))) : IntsAt W (some ⟨g, 0, none⟩) .i64 L :=
 fun i hi => ⟨g, 0, rfl, hlt, by rw [Nat.zero_add]; exact h i hi⟩
def InsPost (lo : Nat) (L : List Int) (w : World) (e : Ending) (w' : World) : Prop := (∃ B d, e = .returned (.slice B L.length d) ∧ IntsAt w' B .i64 L) ∧ Below lo w w'
theorem one_cell (l : List Int) : ∀ v ∈ l.map (Value.int .i64), v.oneCell' = true := ints_one .i64 l
theorem map_at {l : List Int} {j : Nat} {v : Value} (h : (l.map (Value.int .i64))[j]? = some v) : j < l.length ∧ v = .int .i64 (l.getD j 0) := by
 rw [List.getElem?_map] at h
 cases hj : l[j]? with
 | none => rw [hj] at h; cases h
 | some y =>
  rw [hj] at h
  injection h with h
  have := (List.getElem?_eq_some_iff.1 hj).1
  exact ⟨this, by rw [← h, List.getD_eq_getElem?_getD, hj]; rfl⟩
theorem one_at {x : Int} {j : Nat} {v : Value} (h : ([Value.int .i64 x])[j]? = some v) : j = 0 ∧ v = .int .i64 x := by
 match j, h with
 | 0, h => injection h with h; exact ⟨rfl, h.symm⟩
 | j + 1, h => simp at h
set_option maxHeartbeats 4000000 in
theorem insert_one (A : Option Addr) (c : Nat) (l : List Int) (i : Nat) (x : Int) (vb lo : Nat) (w : World) (hown : OwnInts w lo 3 .i64 A c l) (hlo : lo ≤ w.heap.size) (hv : w.heap[vb]? = some (.cells #[.int .i64 x] 3 (0, 0))) (hvA : ∀ g off, A = some ⟨g, off, none⟩ → vb ≠ g) (hi : i ≤ l.length) (hn : l.length ≤ 100000) :
  Calls Tryz.prog 88 #[.slice A l.length c, .int .i64 i, .slice (some ⟨vb, 0, none⟩) 1 1] w (InsPost lo (insL l i x) w) := by
 have hvs : ∀ j v, ([Value.int .i64 x])[j]? = some v → w.cell? ⟨vb, 0 + j, none⟩ = some v := fun j v h => by
  obtain ⟨rfl, rfl⟩ := one_at h
  rw [Nat.zero_add, cell_of_row w vb 0 _ _ _ hv]; rfl
 have h1v : ∀ v ∈ [Value.int .i64 x], v.oneCell' = true := ints_one .i64 [x]
 have hints := hown.ints
 have hcap := hown.cap
 have hlt : vb < w.heap.size := lt_of_block hv
 by_cases hin : i = l.length
 ·subst hin
  by_cases hroom : l.length + 1 ≤ c
  · --at the end, room
   rcases hown.2 with ⟨hv', hn'⟩ | ⟨g, cap, cur, hv', hb, hh, hnc, hm, hs, ht⟩
   ·injection hv' with _ _ hc; omega
   ·injection hv' with hA _ hc
    subst hA hc
    have hg : g < w.heap.size := lt_of_block hh
    have hcell : ∀ j, j < c → (w.cell? ⟨g, j, none⟩).isSome = true := fun j hj => by
     rw [cell_of_row w g j cur _ (0, 0) hh, Array.getElem?_eq_getElem (by omega)]; rfl
    refine (Any2.slices_Insert_int_end_room insLays g 0 l.length c vb 0 1 1 [.int .i64 x] w (by omega) hroom (Nat.le_trans hm (by decide)) rfl (fun j hj => by rw [show 0 + l.length + j = l.length + j by omega]; exact hcell _ (by omega)) (fun j hj => frozen_of_row w g _ cur _ hh) hvs h1v).mono ?_
    rintro e w' ⟨rfl, rfl⟩
    refine ⟨⟨_, c, by rw [insL_len], ints_of_row (Nat.lt_of_lt_of_le hg (below_setCells hb _ _ _ (Below.refl lo _)).size) fun j hj => ?_⟩, below_setCells hb _ _ _ (Below.refl _ _)⟩
    rw [insL_len] at hj
    rw [insL_getD _ _ _ (Nat.le_refl _)]
    by_cases h1 : j < l.length
    ·rw [if_pos h1, World.cell?_setCells_out _ _ _ _ _ (fun _ _ => .inl (by simpa using h1))]
     obtain ⟨b', off', e', _, hc'⟩ := hints j h1
     injection e' with e'
     injection e' with e1 e2
     subst e1 e2
     rw [Nat.zero_add] at hc'
     exact hc'
    ·have h2 : j = l.length := by omega
     subst h2
     rw [if_neg h1, if_pos rfl]
     have := World.cell?_setCells_in g [.int .i64 x] (0 + l.length) w (fun k hk => by
      have : k = 0 := by simpa using hk
      subst this
      rw [show 0 + l.length + 0 = l.length by omega]; exact hcell _ (by omega)) 0 (by simp)
     simpa using this
  · --at the end, no room
   refine (Any2.slices_Insert_int_end_grow insLays A l.length c vb 0 1 1 (l.map (.int .i64)) [.int .i64 x] w (by omega) hcap (by omega) (by omega) (by simp) rfl (fun e => ?_) (fun a ha j v hj => ?_) hvs h1v).mono ?_
   ·rcases Nat.eq_zero_or_pos l.length with h0 | h0
    ·exact h0
    ·obtain ⟨b', off', e', _⟩ := hints 0 h0
     rw [e] at e'; cases e'
   ·obtain ⟨hj', rfl⟩ := map_at hj
    obtain ⟨b', off', e', _, hc'⟩ := hints j hj'
    rw [ha] at e'
    injection e' with e'
    subst e'
    rw [Addr.add_lit]
    exact hc'
   ·rintro e w' ⟨rfl, rfl⟩
    refine ⟨⟨_, _, by rw [insL_len], ints_of_row (by simp) fun j hj => ?_⟩, (Below.drew (Below.refl _ _)).alloc hlo _⟩
    rw [insL_len] at hj
    rw [insL_getD _ _ _ (Nat.le_refl _)]
    have hrow := cell_of_row (w.drew.alloc (.cells ((l.map (Value.int .i64) ++ [Value.int .i64 x]).toArray ++ Builtin.zeroCells (Value.int .i64 0).cells (grownCap w (l.length + 1) c (insRen.t 3) - (l.length + 1))) (insRen.t 3))) w.heap.size j _ _ _ (newAt rfl)
    refine hrow.trans ?_
    rw [Array.getElem?_append_left (by simp; omega)]
    simp only [List.getElem?_toArray]
    by_cases h1 : j < l.length
    ·rw [if_pos h1, List.getElem?_append_left (by simpa using h1)]
     simp [List.getD_eq_getElem?_getD, h1]
    ·have h2 : j = l.length := by omega
     subst h2
     rw [if_neg h1, if_pos rfl, List.getElem?_append_right (by simp)]
     simp
 ·have hlt' : i < l.length := by omega
  obtain ⟨g, rfl, hb, hg, hfr⟩ := hown.block (by omega)
  have hcs : ∀ j v, (l.map (Value.int .i64))[j]? = some v → w.cell? ⟨g, 0 + j, none⟩ = some v := fun j v hj => by
   obtain ⟨hj', rfl⟩ := map_at hj
   obtain ⟨b', off', e', _, hc'⟩ := hints j hj'
   injection e' with e'
   injection e' with e1 e2
   subst e1 e2
   exact hc'
  by_cases hroom : l.length + 1 ≤ c
  · --within, room
   rcases hown.2 with ⟨hv', hn'⟩ | ⟨g', cap, cur, hv', hb', hh, hnc, hm, hs, ht⟩
   ·injection hv' with _ _ hc; omega
   ·injection hv' with hA _ hc
    injection hA with hA
    injection hA with hA _
    subst hA hc
    have hcell : ∀ j, j < c → (w.cell? ⟨g, j, none⟩).isSome = true := fun j hj => by
     rw [cell_of_row w g j cur _ (0, 0) hh, Array.getElem?_eq_getElem (by omega)]; rfl
    refine (Any2.slices_Insert_int_shift insLays g 0 l.length c i vb 0 1 1 (l.map (.int .i64)) [.int .i64 x] w hlt' (by omega) hroom (Nat.le_trans hm (by decide)) (hvA g 0 rfl) (by simp) rfl hcs (fun j hj => by rw [Nat.zero_add]; exact hcell _ (by omega)) (fun j _ => frozen_of_row w g _ cur _ hh) hvs (one_cell l) h1v 3 3 1 c (by unfold World.shape?; rw [hv]; rfl) (by unfold World.shape?; rw [hh]; simp [hs]) (by omega) (frozen_of_row w vb _ _ _ hv) (frozen_of_row w vb _ _ _ hv)).mono ?_
    rintro e w' ⟨rfl, rfl⟩
    refine ⟨⟨_, c, by rw [insL_len], ints_of_row (Nat.lt_of_lt_of_le hg (below_setCells hb _ _ _ (below_setCells hb _ _ _ (Below.drew (Below.refl lo _)))).size) fun j hj => ?_⟩, below_setCells hb _ _ _ (below_setCells hb _ _ _ (Below.drew (Below.refl _ _)))⟩
    rw [insL_len] at hj
    rw [insL_getD _ _ _ hi]
    have hc1 : ∀ k, k < c → (w.drew.cell? ⟨g, k, none⟩).isSome = true := hcell
    by_cases h2 : j = i
    ·subst h2
     rw [if_neg (by omega), if_pos rfl]
     have := World.cell?_setCells_in g [.int .i64 x] (0 + j) (w.drew.setCells g (0 + (j + 1)) ((l.map (Value.int .i64)).drop j)) (fun k hk => by
      have : k = 0 := by simpa using hk
      subst this
      exact isSome_setCells g _ _ _ (fun q hq => hc1 _ (by simp at hq; omega)) _ (hc1 _ (by omega))) 0 (by simp)
     simpa using this
    ·rw [World.cell?_setCells_out _ _ _ _ _ (fun _ _ => by simp only [List.length_cons, List.length_nil]; omega)]
     by_cases h1 : j < i
     ·rw [if_pos h1, World.cell?_setCells_out _ _ _ _ _ (fun _ _ => .inl (by simp; omega))]
      have := hcs j _ (by rw [List.getElem?_map, List.getElem?_eq_getElem (by omega)]; rfl)
      rw [Nat.zero_add] at this
      refine this.trans ?_
      rw [List.getD_eq_getElem?_getD, List.getElem?_eq_getElem (by omega)]; rfl
     ·rw [if_neg h1, if_neg h2]
      have := World.cell?_setCells_in g ((l.map (Value.int .i64)).drop i) (0 + (i + 1)) w.drew (fun q hq => hc1 _ (by simp at hq; omega)) (j - 1 - i) (by simp; omega)
      rw [show 0 + (i + 1) + (j - 1 - i) = j by omega] at this
      rw [this]
      simp only [List.getElem_drop, List.getElem_map, Option.some.injEq]
      rw [List.getD_eq_getElem?_getD, List.getElem?_eq_getElem (by omega)]
      simp only [Option.getD_some, show i + (j - 1 - i) = j - 1 by omega]
  · --within, no room
   refine (Any2.slices_Insert_int_grow insLays g 0 l.length c i vb 0 1 1 (l.map (.int .i64)) [.int .i64 x] w hlt' (by omega) hcap (by omega) (by omega) (by simp) rfl hcs hvs (one_cell l) h1v).mono ?_
   rintro e w' ⟨rfl, rfl⟩
   obtain ⟨W, hW⟩ : ∃ W, w.alloc (.cells (((l.map (Value.int .i64)).take i).toArray ++ Builtin.zeroCells (Value.int .i64 0).cells (l.length + 1 - i) ++ Builtin.zeroCells (Value.int .i64 0).cells (grownCap w (l.length + 1) c (insRen.t 3) - (l.length + 1))) (insRen.t 3)) = W := ⟨_, rfl⟩
   have hWs : W.heap.size = w.heap.size + 1 := by rw [← hW]; simp
   have hWb : Below lo w W := by rw [← hW]; exact (Below.refl _ _).alloc hlo _
   have hWr := fun j => cell_of_row W w.heap.size j _ _ _ (by rw [← hW]; exact newAt rfl)
   have hzs : ∀ n, (Builtin.zeroCells (Value.int .i64 0).cells n).size = n := fun n => by simp [Builtin.zeroCells, Value.cells]
   have hWc : ∀ j, j < l.length + 1 → (W.cell? ⟨w.heap.size, j, none⟩).isSome = true := fun j hj => by
    rw [hWr, Array.getElem?_eq_getElem (by simp only [Array.size_append, hzs, List.size_toArray, List.length_take, List.length_map]; omega)]; rfl
   have hWl : ∀ j, j < i → W.cell? ⟨w.heap.size, j, none⟩ = some (.int .i64 (l.getD j 0)) := fun j hj => by
    rw [hWr, Array.getElem?_append_left (by simp only [Array.size_append, hzs, List.size_toArray, List.length_take, List.length_map]; omega), Array.getElem?_append_left (by simp only [List.size_toArray, List.length_take, List.length_map]; omega)]
    simp only [List.getElem?_toArray]
    rw [List.getElem?_take_of_lt hj, List.getElem?_map, List.getElem?_eq_getElem (by omega), List.getD_eq_getElem?_getD, List.getElem?_eq_getElem (by omega)]
    rfl
   rw [hW]
   refine ⟨⟨_, _, by rw [insL_len], ints_of_row (Nat.lt_of_lt_of_le (by omega : w.heap.size < W.heap.size) (below_setCells hlo _ _ _ (Below.drew (below_setCells hlo _ _ _ (Below.drew (Below.refl lo W))))).size) fun j hj => ?_⟩, below_setCells hlo _ _ _ (Below.drew (below_setCells hlo _ _ _ (Below.drew hWb)))⟩
   rw [insL_len] at hj
   rw [insL_getD _ _ _ hi]
   by_cases h3 : i < j
   ·rw [if_neg (by omega), if_neg (by omega)]
    have := World.cell?_setCells_in w.heap.size ((l.map (Value.int .i64)).drop i) (i + 1) (W.drew.setCells w.heap.size i [.int .i64 x]).drew (fun q hq => isSome_setCells w.heap.size [.int .i64 x] i W.drew (fun q' hq' => hWc (i + q') (by simp at hq'; omega)) (i + 1 + q) (hWc _ (by simp at hq; omega))) (j - 1 - i) (by simp; omega)
    rw [show i + 1 + (j - 1 - i) = j by omega] at this
    rw [this]
    simp only [List.getElem_drop, List.getElem_map, Option.some.injEq]
    rw [List.getD_eq_getElem?_getD, List.getElem?_eq_getElem (by omega)]
    simp only [Option.getD_some, show i + (j - 1 - i) = j - 1 by omega]
   ·rw [World.cell?_setCells_out _ _ _ _ _ (fun _ _ => .inl (by show j < i + 1; omega))]
    by_cases h2 : j = i
    ·subst h2
     rw [if_neg (by omega), if_pos rfl]
     have := World.cell?_setCells_in w.heap.size [.int .i64 x] j W.drew (fun k hk => by
      have : k = 0 := by simpa using hk
      subst this
      exact hWc _ (by omega)) 0 (by simp)
     simpa using this
    ·have h1 : j < i := by omega
     rw [if_pos h1]
     refine (World.cell?_setCells_out w.heap.size [.int .i64 x] i W.drew ⟨w.heap.size, j, none⟩ (fun _ _ => .inl h1)).trans ?_
     exact hWl j h1
end Go.Proofs.YtoehobaigfmnpaaGreatDoor

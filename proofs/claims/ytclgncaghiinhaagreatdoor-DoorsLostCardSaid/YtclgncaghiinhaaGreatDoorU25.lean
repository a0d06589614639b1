/- Contract of package lock: revoke. -/
import Derived.Test.YtclgncaghiinhaaGreatDoorU22
import Derived.Test.YtclgncaghiinhaaGreatDoorU23
set_option linter.unusedSimpArgs false
set_option linter.unusedVariables false
set_option maxRecDepth 100000
namespace Go.Proofs.YtclgncaghiinhaaGreatDoor
open Go.RowKit
theorem ris_sorted : ∀ (d : Int) (l : List Int), risB d l = true → l.Pairwise (· < ·) ∧ ∀ x ∈ l, d < x
 | d, [], _ => ⟨List.Pairwise.nil, fun x hx => absurd hx (by simp)⟩
 | d, y :: r, h => by
  rw [risB, Bool.and_eq_true, wB_iff] at h
  obtain ⟨h1, h2⟩ := ris_sorted y r h.2
  refine ⟨List.Pairwise.cons h2 h1, fun x hx => ?_⟩
  rcases List.mem_cons.1 hx with rfl | hx
  ·omega
  ·have := h2 x hx; omega
theorem keep_ok {l : Lk} (h : bestB l.x l.y = true) : (keepS l).ok = true := by
 rcases bestI_01 l.x l.y with hI | hI
 ·rw [keepS, if_neg (by omega)]; exact best_ok0 h hI
 ·rw [keepS, if_pos hI]; exact best_ok1 hI
theorem ok_sorted {s : Slt} (h : s.ok = true) : s.l.Pairwise (· < ·) ∧ s.l.length ≤ 500 := by
 simp only [Slt.ok, vldB, fldB, Bool.and_eq_true] at h
 refine ⟨(ris_sorted 0 s.l h.1.2).1, ?_⟩
 have := h.1.1.2
 simp only [len5B, decide_eq_true_eq] at this
 omega
theorem bsearch_any (A : Option Addr) (n c : Nat) (l : List Int) (hl : l.length = n) (x : Int) (w : World) (hi : IntsAt w A .i64 l) (hs : l.Pairwise (· < ·)) (hn : n ≤ 100000) :
  Calls Tryz.prog 129 #[.slice A n c, .int .i64 x] w fun e w' => e = .returned (.tuple #[.int .i64 (l.countP (· < x) : Nat), .bool (l.contains x)]) ∧ Below w.heap.size w w' := by
 rcases Nat.eq_zero_or_pos n with h0 | h0
 ·subst h0
  have h0 : l = [] := List.eq_nil_of_length_eq_zero hl
  subst h0
  refine (Tryz.slices_BinarySearch_int_empty A c x w).mono ?_
  rintro e w' ⟨rfl, rfl⟩
  exact ⟨rfl, Below.refl _ _⟩
 ·obtain ⟨b, off, rfl, _⟩ := hi 0 (by omega)
  have ht : l.take n = l := List.take_of_length_le (by omega)
  refine (Tryz.slices_BinarySearch_int b off n c l x w (by omega) (by omega) (fun j hj => ?_) (by rw [ht]; exact hs.imp (fun h => Int.le_of_lt h))).mono ?_
  ·obtain ⟨b', off', e, _, hc⟩ := hi j hj
   injection e with e
   injection e with e1 e2
   subst e1 e2
   exact hc
  ·rintro e w' ⟨rfl, q, rfl⟩
   rw [ht]
   exact ⟨rfl, below_drewN (Below.refl _ _) _⟩
theorem below_undrew {B : Nat} {a w : World} (h : Below B a.drew w) : Below B a w := ⟨h.os, h.tape, h.output, h.size, h.block⟩
theorem ins_b1 {w3 W : World} (A : Option Addr) (c : Nat) (l : List Int) (I : Nat) (x : Int) (hown : OwnInts W w3.heap.size 3 .i64 A c l) (hlo : w3.heap.size ≤ W.heap.size) (hi : I ≤ l.length) (hn : l.length ≤ 100000) :
  Calls Tryz.prog 130 #[.slice A l.length c, .int .i64 I, .slice (some ⟨W.heap.size, 0, none⟩) 1 1] (W.alloc (.cells #[.int .i64 x] 3)) (InsPost w3.heap.size (insL l I x) (W.alloc (.cells #[.int .i64 x] 3))) :=
 insert_one A c l I x W.heap.size w3.heap.size _ (hown.alloc _) (by simp; omega) (newAt rfl) (fun g off e h => by have := (hown.lt g (by rw [e]; rfl)).2; omega) hi hn
theorem ins_b2 {w3 w4 : World} (A : Option Addr) (c : Nat) (l : List Int) (I : Nat) (x : Int) (hown : OwnInts w4 (w3.alloc (.cells #[.int .i64 x] 3)).heap.size 3 .i64 A c l) (hb : Below (w3.alloc (.cells #[.int .i64 x] 3)).heap.size (w3.alloc (.cells #[.int .i64 x] 3)) w4) (hi : I ≤ l.length) (hn : l.length ≤ 100000) :
  Calls Tryz.prog 130 #[.slice A l.length c, .int .i64 I, .slice (some ⟨w3.heap.size, 0, none⟩) 1 1] w4 (InsPost w3.heap.size (insL l I x) w4) := by
 refine insert_one A c l I x w3.heap.size w3.heap.size w4 (hown.base_le (by simp)) (by have := hb.size; simp at this; omega) ?_ (fun g off e h => by have := (hown.lt g (by rw [e]; rfl)).1; simp at this; omega) hi hn
 rw [hb.block w3.heap.size (by simp)]; exact newAt rfl
/-- what a list of lost cards is after a revoking card -/
def revL (L : List Int) (x : Int) : List Int := if L.contains x = true then L else insL L (L.countP (· < x)) x
set_option maxHeartbeats 4000000 in
theorem revoke_any (l : Lk) (c : Crd) (A : Option Addr) (n p : Nat) (B : Option Addr) (m q : Nat) (w : World) (hx : SlotIs w A n l.x) (hy : SlotIs w B m l.y) (ht : Tab w) (hk : bestB l.x l.y = true) :
  Calls Tryz.prog 121 #[.agg (l.cells A n p B m q).toArray, .agg c.cells.toArray] w (AftPost (keepS l).c (revL (keepS l).l c.l) w) := by
 obtain ⟨w0, hw0⟩ : ∃ W, (w.alloc (.cells (l.cells A n p B m q).toArray 85)).alloc (.cells c.cells.toArray 28) = W := ⟨_, rfl⟩
 have bb0 : Below w.heap.size w w0 := by rw [← hw0]; exact ((Below.refl _ _).alloc (Nat.le_refl _) _).alloc (by simp) _
 have k0 : Blk w0 w.heap.size (l.cells A n p B m q).toArray := by rw [← hw0]; exact (blk_new rfl).alloc _
 have g0 : Blk w0 (w.heap.size + 1) c.cells.toArray := by rw [← hw0]; exact blk_new (by simp)
 obtain ⟨K, t, hs, q1⟩ := kept_as l A n p B m q w hx hy ht
 obtain ⟨so, few⟩ := ok_sorted (keep_ok hk)
 generalize keepS l = s at *
 generalize bestB l.x l.y = T at *
 have q2 := fun W h => bsearch_any K s.l.length t s.l rfl c.l W h so (by omega)
 have hcp : s.l.countP (· < c.l) ≤ s.l.length := List.countP_le_length
 have hR : revL s.l c.l = if s.l.contains c.l = true then s.l else insL s.l (s.l.countP (· < c.l)) c.l := rfl
 generalize hL : revL s.l c.l = L at *
 generalize hI : s.l.countP (· < c.l) = I at *
 unfold Lk.cells at k0 hw0 q1 ⊢
 unfold Crd.cells at g0 hw0 ⊢
 cases hC : s.l.contains c.l with
 | true =>
  rw [hC, if_pos rfl] at hR
  rw [hR]
  rw [hC] at q2
  clear hL hI hcp
  have ⟨Hbb0, Hk0, Hg0, Hhw0, Hq1, Hq2, Hhx, Hhy⟩ := hid8 bb0 k0 g0 hw0 q1 q2 hx hy; clear bb0 k0 g0 hw0 q1 q2 hx hy; have ⟨Hht, Hhs, Hso, Hfew, HhC, HhR⟩ := hid6 ht hs so few hC hR; clear ht hs so few hC hR
  go_enter Tryz.func121, Tryz.ntmps121
  go_wp2_with fail
  rw [Hhw0.out]
  obtain ⟨y0, y1, y2, y3, y4, y5, y6, y7, y8, y9, y10, y11⟩ := at12_of Hk0.out
  go_wp2_with fail
  (with_reducible refine (Hq1.out _ ?_).mono ?_)
  ·exact Hbb0.out
  rintro e w1 ⟨rfl, b1⟩
  have c1 : Below w0.heap.size w0 w1 := Below.trans belt (b1.mono omh)
  have s1 := c1.size
  have bb1 := Hbb0.out.trans (c1.mono Hbb0.out.size)
  have k1 := Hk0.out.below c1
  have g1 := Hg0.out.below c1
  have ⟨Hb1, Hc1, Hbb1, Hk1, Hg1⟩ := hid5 b1 c1 bb1 k1 g1; clear b1 c1 bb1 k1 g1
  clear y0 y1 y2 y3 y4 y5 y6 y7 y8 y9 y10 y11
  go_upto_region 2 with (fail)
  obtain ⟨w2, hw2⟩ : ∃ W, w1.alloc (.cells #[.int .i64 s.s, .int .i64 s.c, .slice K s.l.length t, .int .u64 s.u] 45) = W := ⟨_, rfl⟩
  rw [hw2]
  have o2 : Blk w2 w1.heap.size #[.int .i64 s.s, .int .i64 s.c, .slice K s.l.length t, .int .u64 s.u] := by rw [← hw2]; exact blk_new rfl
  have b2 : Below w1.heap.size w1 w2 := by rw [← hw2]; exact (Below.refl _ _).alloc (Nat.le_refl _) _
  have g2 := Hg1.out.below b2
  have bb2 := Hbb1.out.trans (b2.mono Hbb1.out.size)
  have e2 := Hhs.out.below bb2
  have ⟨Ho2, Hb2, Hg2, Hbb2, Hhw2, He2⟩ := hid6 o2 b2 g2 bb2 hw2 e2; clear o2 b2 g2 bb2 hw2 e2
  obtain ⟨x0, x1, x2, x3⟩ := at4_of Ho2.out
  obtain ⟨z0, z1, z2, z3, z4, z5, z6, z7, z8⟩ := at9_of Hg2.out
  have lo := (Ho2.out 0 _ rfl).lt
  have lz := (Hg2.out 0 _ rfl).lt
  go_wp2_with fail
  (with_reducible refine (Hq2.out _ ?_).mono ?_)
  ·exact (He2.out.below (show Below w2.heap.size w2 _ from belt)).ints
  rintro e w3 ⟨rfl, b3⟩
  have c3 : Below w2.heap.size w2 w3 := Below.trans belt (b3.mono omh)
  have s3 := c3.size
  have bb3 := Hbb2.out.trans (c3.mono Hbb2.out.size)
  have g3 := Hg2.out.below c3
  have o3 := Ho2.out.below c3
  have e3 := He2.out.below c3
  have ⟨Hb3, Hc3, Hbb3, Hg3, Ho3, He3⟩ := hid6 b3 c3 bb3 g3 o3 e3; clear b3 c3 bb3 g3 o3 e3
  clear x0 x1 x2 x3 z0 z1 z2 z3 z4 z5 z6 z7 z8
  go_upto_region 4 with (fail)
  obtain ⟨x0, x1, x2, x3⟩ := at4_of Ho3.out
  obtain ⟨z0, z1, z2, z3, z4, z5, z6, z7, z8⟩ := at9_of Hg3.out
  have lo3 := (Ho3.out 0 _ rfl).lt
  have lz3 := (Hg3.out 0 _ rfl).lt
  go_region_held3 (fun W => (∀ b o, b < w3.heap.size → W.cell? ⟨b, o, none⟩ = w3.cell? ⟨b, o, none⟩) ∧ Below w3.heap.size w3 W) (first | (refine ext_mk ?_; exact belt)) (fail)
  all_goals
   have gF : Below w3.heap.size w3 _ := And.right (by assumption)
   go_wp2_with fail
   go_ret2
   exact ⟨K, t, by first | rfl | (simp; done), (He3.out.below gF).ints, Hbb3.out.trans (gF.mono Hbb3.out.size)⟩
 | false =>
  rw [hC, if_neg (by decide)] at hR
  rw [hC] at q2
  rw [hR]
  have ⟨Hbb0, Hk0, Hg0, Hhw0, Hq1, Hq2, Hhx, Hhy⟩ := hid8 bb0 k0 g0 hw0 q1 q2 hx hy; clear bb0 k0 g0 hw0 q1 q2 hx hy; have ⟨Hht, Hhs, Hso, Hfew, HhC, HhR, HhL, HhI⟩ := hid8 ht hs so few hC hR hL hI; clear ht hs so few hC hR hL hI; have Hhcp := Lib.hid hcp; clear hcp
  go_enter Tryz.func121, Tryz.ntmps121
  go_wp2_with fail
  rw [Hhw0.out]
  obtain ⟨y0, y1, y2, y3, y4, y5, y6, y7, y8, y9, y10, y11⟩ := at12_of Hk0.out
  go_wp2_with fail
  (with_reducible refine (Hq1.out _ ?_).mono ?_)
  ·exact Hbb0.out
  rintro e w1 ⟨rfl, b1⟩
  have c1 : Below w0.heap.size w0 w1 := Below.trans belt (b1.mono omh)
  have s1 := c1.size
  have bb1 := Hbb0.out.trans (c1.mono Hbb0.out.size)
  have k1 := Hk0.out.below c1
  have g1 := Hg0.out.below c1
  have ⟨Hb1, Hc1, Hbb1, Hk1, Hg1⟩ := hid5 b1 c1 bb1 k1 g1; clear b1 c1 bb1 k1 g1
  clear y0 y1 y2 y3 y4 y5 y6 y7 y8 y9 y10 y11
  go_upto_region 2 with (fail)
  obtain ⟨w2, hw2⟩ : ∃ W, w1.alloc (.cells #[.int .i64 s.s, .int .i64 s.c, .slice K s.l.length t, .int .u64 s.u] 45) = W := ⟨_, rfl⟩
  rw [hw2]
  have o2 : Blk w2 w1.heap.size #[.int .i64 s.s, .int .i64 s.c, .slice K s.l.length t, .int .u64 s.u] := by rw [← hw2]; exact blk_new rfl
  have b2 : Below w1.heap.size w1 w2 := by rw [← hw2]; exact (Below.refl _ _).alloc (Nat.le_refl _) _
  have g2 := Hg1.out.below b2
  have bb2 := Hbb1.out.trans (b2.mono Hbb1.out.size)
  have e2 := Hhs.out.below bb2
  have ⟨Ho2, Hb2, Hg2, Hbb2, Hhw2, He2⟩ := hid6 o2 b2 g2 bb2 hw2 e2; clear o2 b2 g2 bb2 hw2 e2
  obtain ⟨x0, x1, x2, x3⟩ := at4_of Ho2.out
  obtain ⟨z0, z1, z2, z3, z4, z5, z6, z7, z8⟩ := at9_of Hg2.out
  have lo := (Ho2.out 0 _ rfl).lt
  have lz := (Hg2.out 0 _ rfl).lt
  go_wp2_with fail
  (with_reducible refine (Hq2.out _ ?_).mono ?_)
  ·exact (He2.out.below (show Below w2.heap.size w2 _ from belt)).ints
  rintro e w3 ⟨rfl, b3⟩
  have c3 : Below w2.heap.size w2 w3 := Below.trans belt (b3.mono omh)
  have s3 := c3.size
  have bb3 := Hbb2.out.trans (c3.mono Hbb2.out.size)
  have g3 := Hg2.out.below c3
  have o3 := Ho2.out.below c3
  have e3 := He2.out.below c3
  have ⟨Hb3, Hc3, Hbb3, Hg3, Ho3, He3⟩ := hid6 b3 c3 bb3 g3 o3 e3; clear b3 c3 bb3 g3 o3 e3
  clear x0 x1 x2 x3 z0 z1 z2 z3 z4 z5 z6 z7 z8
  go_upto_region 5 with (fail)
  obtain ⟨x0, x1, x2, x3⟩ := at4_of Ho3.out
  obtain ⟨z0, z1, z2, z3, z4, z5, z6, z7, z8⟩ := at9_of Hg3.out
  have lo3 := (Ho3.out 0 _ rfl).lt
  have lz3 := (Hg3.out 0 _ rfl).lt
  have hn5 : s.l.length ≤ 100000 := by have := Hfew.out; omega
  have q3 := fun W (h : IntsAt W K .i64 s.l) => clone_any K t s.l.length s.l rfl W h hn5
  unfold CloneAt at q3
  have hcp := Hhcp.out
  have Hq3 := Lib.hid q3; clear q3
  go_region_held3 (fun W => (∀ b o, b < w3.heap.size → W.cell? ⟨b, o, none⟩ = w3.cell? ⟨b, o, none⟩) ∧ Below w3.heap.size w3 W) (first | (refine ext_mk ?_; exact belt)) (first | ((go_at_call 80; (with_reducible refine (Hq3.out _ ?_).mono ?_); (focus (exact (He3.out.below (And.right (by assumption : _ ∧ Below w3.heap.size w3 _))).ints)); rintro e w4 ⟨A4, c4, rfl, own4, hbw4⟩; have gw4 := Below.trans (And.right (by assumption : _ ∧ Below w3.heap.size w3 _)) (hbw4.mono (Below.size (And.right (by assumption : _ ∧ Below w3.heap.size w3 _)))); have gsw4 := gw4.size; have hcf := bcell hbw4; have hcw4 := hcf.1; have hfw4 := hcf.2; have hsw4 := hbw4.size; (try simp only [World.size_alloc, World.heap_drewN, heap_drew] at hsw4); have Hhbw4 := Lib.hid hbw4; clear hbw4 hcf; (try have hzw4 : w3.heap.size < w4.heap.size := by omega))) | (go_at_call 130; have o4 : OwnInts w4 w3.heap.size 3 .i64 A4 c4 s.l := own4; (with_reducible refine (ins_b1 (w3 := w3) A4 c4 s.l I c.l o4 gsw4 hcp hn5).mono ?_); clear o4; rintro e w5 ⟨⟨B5, d5, rfl, hi5⟩, hb5⟩; have g5 : Below w3.heap.size w3 w5 := Below.trans (And.right (by assumption : _ ∧ Below w3.heap.size w3 _)) hb5; clear hb5) | (go_at_call 130; have o4 : OwnInts w4 (w3.alloc (.cells #[.int .i64 c.l] 3)).heap.size 3 .i64 A4 c4 s.l := own4; have h4 : Below (w3.alloc (.cells #[.int .i64 c.l] 3)).heap.size (w3.alloc (.cells #[.int .i64 c.l] 3)) w4 := below_undrew Hhbw4.out; (with_reducible refine (ins_b2 (w3 := w3) A4 c4 s.l I c.l o4 h4 hcp hn5).mono ?_); clear o4 h4; rintro e w5 ⟨⟨B5, d5, rfl, hi5⟩, hb5⟩; have g5 : Below w3.heap.size w3 w5 := Below.trans (And.right (by assumption : _ ∧ Below w3.heap.size w3 _)) hb5; clear hb5) | fail)
  all_goals
   have gF : Below w3.heap.size w3 _ := And.right (by assumption)
   go_wp2_with fail
   go_ret2
   exact ⟨B5, d5, by first | rfl | (simp; done), hi5, Hbb3.out.trans (gF.mono Hbb3.out.size)⟩
end Go.Proofs.YtclgncaghiinhaaGreatDoor

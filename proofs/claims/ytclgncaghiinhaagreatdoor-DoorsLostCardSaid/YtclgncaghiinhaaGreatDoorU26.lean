/- Contract of package lock: after. -/
import Derived.Test.YtclgncaghiinhaaGreatDoorU10
import Derived.Test.YtclgncaghiinhaaGreatDoorU11
import Derived.Test.YtclgncaghiinhaaGreatDoorU25
set_option linter.unusedSimpArgs false
set_option linter.unusedVariables false
set_option maxRecDepth 100000
namespace Go.Proofs.YtclgncaghiinhaaGreatDoor
open Go.RowKit
section
open Go.RowKit Go.Maps
/-- the lost cards that a lock keeps after a card -/
def aftL (l : Lk) (c : Crd) : List Int := if c.k = 3 then revL (keepS l).l c.l else (keepS l).l
def metV (f : Nat) (V : Value) : Value := .func (.func f) #[V] #[]
def metD (V : Value) : DataW Value := (((DataW.map []).put (.int .i64 1) (.held (metV 119 V))).put (.int .i64 2) (.held (metV 120 V))).put (.int .i64 3) (.held (metV 121 V))
theorem met_at (V : Value) (k : Int) (z : DataW Value) : (metD V).atKey (.int .i64 k) z = if k = 3 then .held (metV 121 V) else if k = 2 then .held (metV 120 V) else if k = 1 then .held (metV 119 V) else z := by
 unfold metD
 rw [at_put_int ((isMap_empty.put _ _).put _ _), at_put_int (isMap_empty.put _ _), at_put_int isMap_empty]; rfl
set_option maxHeartbeats 4000000 in
theorem after_any (l : Lk) (c : Crd) (hk : c.k = 1 ∨ c.k = 2 ∨ c.k = 3) (A : Option Addr) (n p : Nat) (B : Option Addr) (m q : Nat) (w : World) (hx : SlotIs w A n l.x) (hy : SlotIs w B m l.y) (ht : Tab w) (hb : bestB l.x l.y = true) :
  Calls Tryz.prog 105 #[.agg (l.cells A n p B m q).toArray, .agg c.cells.toArray] w (AftPost (aftC l c) (aftL l c) w) := by
 obtain ⟨w0, hw0⟩ : ∃ W, (w.alloc (.cells (l.cells A n p B m q).toArray 85)).alloc (.cells c.cells.toArray 28) = W := ⟨_, rfl⟩
 have bb0 : Below w.heap.size w w0 := by rw [← hw0]; exact ((Below.refl _ _).alloc (Nat.le_refl _) _).alloc (by simp) _
 have k0 : Blk w0 w.heap.size (l.cells A n p B m q).toArray := by rw [← hw0]; exact (blk_new rfl).alloc _
 have g0 : Blk w0 (w.heap.size + 1) c.cells.toArray := by rw [← hw0]; exact blk_new (by simp)
 have s0 : w0.heap.size = w.heap.size + 1 + 1 := by rw [← hw0]; simp
 have q1 := fun W hx hy ht => guest_any l c A n p B m q W hx hy ht
 have q2 := fun W hx hy ht => staff_any l c A n p B m q W hx hy ht
 have q3 := fun W hx hy ht => revoke_any l c A n p B m q W hx hy ht hb
 have hC : aftC l c = if c.k = 1 then max (keepS l).c c.n else (keepS l).c := rfl
 have hL : aftL l c = if c.k = 3 then revL (keepS l).l c.l else (keepS l).l := rfl
 have hmm := @run_makeMap Tryz.prog
 have K : Keyed Tryz.prog 3 := int_keyed Tryz.underlying3
 have k1 : keyOf Tryz.prog 3 (.int .i64 1) = some (.int .i64 1) := keyOf_int_mk Tryz.underlying3 (by decide)
 have k2 : keyOf Tryz.prog 3 (.int .i64 2) = some (.int .i64 2) := keyOf_int_mk Tryz.underlying3 (by decide)
 have k3 : keyOf Tryz.prog 3 (.int .i64 3) = some (.int .i64 3) := keyOf_int_mk Tryz.underlying3 (by decide)
 have hmf : ∀ (fn : Fn) (first cap : Array Value) (w : World), (Instr.makeFunc fn first cap).run Tryz.prog w = .ok (.func fn first cap) w := fun _ _ _ _ => rfl
 have zf : ∀ W, (zeroValue 150).run Tryz.prog W = .ok .nilFunc W := fun W => by kernel_rfl
 unfold AftPost at q1 q2 q3
 generalize aftC l c = RC at *
 generalize aftL l c = RL at *
 generalize max (keepS l).c c.n = mx at *
 generalize revL (keepS l).l c.l = rv at *
 generalize (keepS l).c = sc at *
 generalize (keepS l).l = sl at *
 obtain ⟨ci, ck, cd, cn, cf, cu, cl, ce, cs⟩ := c
 dsimp only at hk hC hL
 have lk : ∀ (V : Value) (W : World) (b : Nat), MapAt W Tryz.prog 3 b 3 (metD V) → (Instr.lookup 160 (.map (some b)) (.int .i64 ck) false).run Tryz.prog W = .ok (metV (if ck = 1 then 119 else if ck = 2 then 120 else 121) V) W := fun V W b h => by
  refine h.look (int_keyed Tryz.underlying3) Tryz.underlying160 (zf W) (keyOf_int_mk Tryz.underlying3 (WalkArith.wf_i64 (by omega))) ?_
  rw [met_at]
  rcases hk with rfl | rfl | rfl <;> rfl
 unfold Lk.cells at k0 hw0 q1 q2 q3 ⊢
 unfold Crd.cells at g0 hw0 q1 q2 q3 ⊢
 dsimp only at g0 hw0 q1 q2 q3 ⊢
 rcases hk with rfl | rfl | rfl
 ·simp only [Int.reduceEq, if_true, if_false, reduceIte] at hC hL lk
  subst hC hL
  unfold metV at lk
  have ⟨Hbb0, Hk0, Hg0, Hhw0, Hq1, Hq2, Hq3, Hhx⟩ := hid8 bb0 k0 g0 hw0 q1 q2 q3 hx; clear bb0 k0 g0 hw0 q1 q2 q3 hx; have ⟨Hhy, Hht, Hk1, Hk2, Hk3, Hlk, Hhb, Hs0⟩ := hid8 hy ht k1 k2 k3 lk hb s0; clear hy ht k1 k2 k3 lk hb s0
  go_enter Tryz.func105, Tryz.ntmps105
  go_upto_region 1 with (fail)
  rw [Hhw0.out]
  obtain ⟨y0, y1, y2, y3, y4, y5, y6, y7, y8, y9, y10, y11⟩ := at12_of Hk0.out
  have ly := (Hk0.out 0 _ rfl).lt
  go_wp2_with (refine wp_insert_any _ (by rfl) (.tmp 6) _ (.tmp 8) _ (by rfl) 3 150 K Tryz.underlying160 w0.heap.size 0 (.map []) (by rfl) (MapAt.made _ _ _ rfl) (by unfold maxLen; omega) (.int .i64 1) (.func (.func 119) #[(.agg #[.int .i64 l.d, .int .i64 l.k, .int .i64 l.r, .int .i64 l.x.s, .int .i64 l.x.c, .slice A n p, .int .u64 l.x.u, .int .i64 l.y.s, .int .i64 l.y.c, .slice B m q, .int .u64 l.y.u, .bool l.up])] #[]) (.int .i64 1) (by rfl) (by rfl) Hk1.out ?_)
  intro w1 m1 g1
  have r1 := grown_then (grown_of_below ((Below.refl w0.heap.size w0).alloc (Nat.le_refl _) _) (some w0.heap.size)) g1 (.inl rfl)
  have b1 := below_of_grown r1 (Nat.le_refl _) (Nat.le_refl _)
  have n1 := Hk0.out.below b1
  have o1 := Hg0.out.below b1
  clear y0 y1 y2 y3 y4 y5 y6 y7 y8 y9 y10 y11
  have ⟨Hm1, Hg1, Hr1, Hb1, Hn1, Ho1⟩ := hid6 m1 g1 r1 b1 n1 o1; clear m1 g1 r1 b1 n1 o1
  obtain ⟨y0, y1, y2, y3, y4, y5, y6, y7, y8, y9, y10, y11⟩ := at12_of Hn1.out
  have ly1 := (Hn1.out 0 _ rfl).lt
  go_wp2_with (refine wp_insert_any _ (by rfl) (.tmp 6) _ (.tmp 10) _ (by rfl) 3 150 K Tryz.underlying160 w0.heap.size 1 _ (by rfl) Hm1.out (by unfold maxLen; omega) (.int .i64 2) (.func (.func 120) #[(.agg #[.int .i64 l.d, .int .i64 l.k, .int .i64 l.r, .int .i64 l.x.s, .int .i64 l.x.c, .slice A n p, .int .u64 l.x.u, .int .i64 l.y.s, .int .i64 l.y.c, .slice B m q, .int .u64 l.y.u, .bool l.up])] #[]) (.int .i64 2) (by rfl) (by rfl) Hk2.out ?_)
  intro w2 m2 g2
  have r2 := grown_then Hr1.out g2 (.inl rfl)
  have b2 := below_of_grown r2 (Nat.le_refl _) (Nat.le_refl _)
  have n2 := Hk0.out.below b2
  have o2 := Hg0.out.below b2
  clear y0 y1 y2 y3 y4 y5 y6 y7 y8 y9 y10 y11
  have ⟨Hm2, Hg2, Hr2, Hb2, Hn2, Ho2⟩ := hid6 m2 g2 r2 b2 n2 o2; clear m2 g2 r2 b2 n2 o2
  obtain ⟨y0, y1, y2, y3, y4, y5, y6, y7, y8, y9, y10, y11⟩ := at12_of Hn2.out
  have ly2 := (Hn2.out 0 _ rfl).lt
  go_wp2_with (refine wp_insert_any _ (by rfl) (.tmp 6) _ (.tmp 12) _ (by rfl) 3 150 K Tryz.underlying160 w0.heap.size 2 _ (by rfl) Hm2.out (by unfold maxLen; omega) (.int .i64 3) (.func (.func 121) #[(.agg #[.int .i64 l.d, .int .i64 l.k, .int .i64 l.r, .int .i64 l.x.s, .int .i64 l.x.c, .slice A n p, .int .u64 l.x.u, .int .i64 l.y.s, .int .i64 l.y.c, .slice B m q, .int .u64 l.y.u, .bool l.up])] #[]) (.int .i64 3) (by rfl) (by rfl) Hk3.out ?_)
  intro w3 m3 g3
  have r3 := grown_then Hr2.out g3 (.inl rfl)
  have b3 := below_of_grown r3 (Nat.le_refl _) (Nat.le_refl _)
  have n3 := Hk0.out.below b3
  have o3 := Hg0.out.below b3
  clear y0 y1 y2 y3 y4 y5 y6 y7 y8 y9 y10 y11
  have ⟨Hm3, Hg3, Hr3, Hb3, Hn3, Ho3⟩ := hid6 m3 g3 r3 b3 n3 o3; clear m3 g3 r3 b3 n3 o3
  obtain ⟨y0, y1, y2, y3, y4, y5, y6, y7, y8, y9, y10, y11⟩ := at12_of Hn3.out
  have ly3 := (Hn3.out 0 _ rfl).lt
  obtain ⟨z0, z1, z2, z3, z4, z5, z6, z7, z8⟩ := at9_of Ho3.out
  have lz := (Ho3.out 0 _ rfl).lt
  have lk3 := Hlk.out (.agg #[.int .i64 l.d, .int .i64 l.k, .int .i64 l.r, .int .i64 l.x.s, .int .i64 l.x.c, .slice A n p, .int .u64 l.x.u, .int .i64 l.y.s, .int .i64 l.y.c, .slice B m q, .int .u64 l.y.u, .bool l.up]) _ _ Hm3.out
  have bw := Hbb0.out.trans (Hb3.out.mono Hbb0.out.size)
  have Hbw := Lib.hid bw; clear bw
  go_wp2_with fail
  (with_reducible refine (Hq1.out _ ?_ ?_ ?_).mono ?_)
  ·exact Hhx.out.below Hbw.out
  ·exact Hhy.out.below Hbw.out
  ·exact Hht.out.below Hbw.out
  rintro e w4 ⟨A4, t4, rfl, hi4, b4⟩
  have bb4 := Hbw.out.trans (b4.mono Hbw.out.size)
  have ⟨Hb4, Hbb4⟩ := hid2 b4 bb4; clear b4 bb4
  go_wp2_with fail
  go_ret2
  exact ⟨A4, t4, by first | rfl | (simp; done), hi4, Hbb4.out⟩
 ·simp only [Int.reduceEq, if_true, if_false, reduceIte] at hC hL lk
  subst hC hL
  unfold metV at lk
  have ⟨Hbb0, Hk0, Hg0, Hhw0, Hq1, Hq2, Hq3, Hhx⟩ := hid8 bb0 k0 g0 hw0 q1 q2 q3 hx; clear bb0 k0 g0 hw0 q1 q2 q3 hx; have ⟨Hhy, Hht, Hk1, Hk2, Hk3, Hlk, Hhb, Hs0⟩ := hid8 hy ht k1 k2 k3 lk hb s0; clear hy ht k1 k2 k3 lk hb s0
  go_enter Tryz.func105, Tryz.ntmps105
  go_upto_region 1 with (fail)
  rw [Hhw0.out]
  obtain ⟨y0, y1, y2, y3, y4, y5, y6, y7, y8, y9, y10, y11⟩ := at12_of Hk0.out
  have ly := (Hk0.out 0 _ rfl).lt
  go_wp2_with (refine wp_insert_any _ (by rfl) (.tmp 6) _ (.tmp 8) _ (by rfl) 3 150 K Tryz.underlying160 w0.heap.size 0 (.map []) (by rfl) (MapAt.made _ _ _ rfl) (by unfold maxLen; omega) (.int .i64 1) (.func (.func 119) #[(.agg #[.int .i64 l.d, .int .i64 l.k, .int .i64 l.r, .int .i64 l.x.s, .int .i64 l.x.c, .slice A n p, .int .u64 l.x.u, .int .i64 l.y.s, .int .i64 l.y.c, .slice B m q, .int .u64 l.y.u, .bool l.up])] #[]) (.int .i64 1) (by rfl) (by rfl) Hk1.out ?_)
  intro w1 m1 g1
  have r1 := grown_then (grown_of_below ((Below.refl w0.heap.size w0).alloc (Nat.le_refl _) _) (some w0.heap.size)) g1 (.inl rfl)
  have b1 := below_of_grown r1 (Nat.le_refl _) (Nat.le_refl _)
  have n1 := Hk0.out.below b1
  have o1 := Hg0.out.below b1
  clear y0 y1 y2 y3 y4 y5 y6 y7 y8 y9 y10 y11
  have ⟨Hm1, Hg1, Hr1, Hb1, Hn1, Ho1⟩ := hid6 m1 g1 r1 b1 n1 o1; clear m1 g1 r1 b1 n1 o1
  obtain ⟨y0, y1, y2, y3, y4, y5, y6, y7, y8, y9, y10, y11⟩ := at12_of Hn1.out
  have ly1 := (Hn1.out 0 _ rfl).lt
  go_wp2_with (refine wp_insert_any _ (by rfl) (.tmp 6) _ (.tmp 10) _ (by rfl) 3 150 K Tryz.underlying160 w0.heap.size 1 _ (by rfl) Hm1.out (by unfold maxLen; omega) (.int .i64 2) (.func (.func 120) #[(.agg #[.int .i64 l.d, .int .i64 l.k, .int .i64 l.r, .int .i64 l.x.s, .int .i64 l.x.c, .slice A n p, .int .u64 l.x.u, .int .i64 l.y.s, .int .i64 l.y.c, .slice B m q, .int .u64 l.y.u, .bool l.up])] #[]) (.int .i64 2) (by rfl) (by rfl) Hk2.out ?_)
  intro w2 m2 g2
  have r2 := grown_then Hr1.out g2 (.inl rfl)
  have b2 := below_of_grown r2 (Nat.le_refl _) (Nat.le_refl _)
  have n2 := Hk0.out.below b2
  have o2 := Hg0.out.below b2
  clear y0 y1 y2 y3 y4 y5 y6 y7 y8 y9 y10 y11
  have ⟨Hm2, Hg2, Hr2, Hb2, Hn2, Ho2⟩ := hid6 m2 g2 r2 b2 n2 o2; clear m2 g2 r2 b2 n2 o2
  obtain ⟨y0, y1, y2, y3, y4, y5, y6, y7, y8, y9, y10, y11⟩ := at12_of Hn2.out
  have ly2 := (Hn2.out 0 _ rfl).lt
  go_wp2_with (refine wp_insert_any _ (by rfl) (.tmp 6) _ (.tmp 12) _ (by rfl) 3 150 K Tryz.underlying160 w0.heap.size 2 _ (by rfl) Hm2.out (by unfold maxLen; omega) (.int .i64 3) (.func (.func 121) #[(.agg #[.int .i64 l.d, .int .i64 l.k, .int .i64 l.r, .int .i64 l.x.s, .int .i64 l.x.c, .slice A n p, .int .u64 l.x.u, .int .i64 l.y.s, .int .i64 l.y.c, .slice B m q, .int .u64 l.y.u, .bool l.up])] #[]) (.int .i64 3) (by rfl) (by rfl) Hk3.out ?_)
  intro w3 m3 g3
  have r3 := grown_then Hr2.out g3 (.inl rfl)
  have b3 := below_of_grown r3 (Nat.le_refl _) (Nat.le_refl _)
  have n3 := Hk0.out.below b3
  have o3 := Hg0.out.below b3
  clear y0 y1 y2 y3 y4 y5 y6 y7 y8 y9 y10 y11
  have ⟨Hm3, Hg3, Hr3, Hb3, Hn3, Ho3⟩ := hid6 m3 g3 r3 b3 n3 o3; clear m3 g3 r3 b3 n3 o3
  obtain ⟨y0, y1, y2, y3, y4, y5, y6, y7, y8, y9, y10, y11⟩ := at12_of Hn3.out
  have ly3 := (Hn3.out 0 _ rfl).lt
  obtain ⟨z0, z1, z2, z3, z4, z5, z6, z7, z8⟩ := at9_of Ho3.out
  have lz := (Ho3.out 0 _ rfl).lt
  have lk3 := Hlk.out (.agg #[.int .i64 l.d, .int .i64 l.k, .int .i64 l.r, .int .i64 l.x.s, .int .i64 l.x.c, .slice A n p, .int .u64 l.x.u, .int .i64 l.y.s, .int .i64 l.y.c, .slice B m q, .int .u64 l.y.u, .bool l.up]) _ _ Hm3.out
  have bw := Hbb0.out.trans (Hb3.out.mono Hbb0.out.size)
  have Hbw := Lib.hid bw; clear bw
  go_wp2_with fail
  (with_reducible refine (Hq2.out _ ?_ ?_ ?_).mono ?_)
  ·exact Hhx.out.below Hbw.out
  ·exact Hhy.out.below Hbw.out
  ·exact Hht.out.below Hbw.out
  rintro e w4 ⟨A4, t4, rfl, hi4, b4⟩
  have bb4 := Hbw.out.trans (b4.mono Hbw.out.size)
  have ⟨Hb4, Hbb4⟩ := hid2 b4 bb4; clear b4 bb4
  go_wp2_with fail
  go_ret2
  exact ⟨A4, t4, by first | rfl | (simp; done), hi4, Hbb4.out⟩
 ·simp only [Int.reduceEq, if_true, if_false, reduceIte] at hC hL lk
  subst hC hL
  unfold metV at lk
  have ⟨Hbb0, Hk0, Hg0, Hhw0, Hq1, Hq2, Hq3, Hhx⟩ := hid8 bb0 k0 g0 hw0 q1 q2 q3 hx; clear bb0 k0 g0 hw0 q1 q2 q3 hx; have ⟨Hhy, Hht, Hk1, Hk2, Hk3, Hlk, Hhb, Hs0⟩ := hid8 hy ht k1 k2 k3 lk hb s0; clear hy ht k1 k2 k3 lk hb s0
  go_enter Tryz.func105, Tryz.ntmps105
  go_upto_region 1 with (fail)
  rw [Hhw0.out]
  obtain ⟨y0, y1, y2, y3, y4, y5, y6, y7, y8, y9, y10, y11⟩ := at12_of Hk0.out
  have ly := (Hk0.out 0 _ rfl).lt
  go_wp2_with (refine wp_insert_any _ (by rfl) (.tmp 6) _ (.tmp 8) _ (by rfl) 3 150 K Tryz.underlying160 w0.heap.size 0 (.map []) (by rfl) (MapAt.made _ _ _ rfl) (by unfold maxLen; omega) (.int .i64 1) (.func (.func 119) #[(.agg #[.int .i64 l.d, .int .i64 l.k, .int .i64 l.r, .int .i64 l.x.s, .int .i64 l.x.c, .slice A n p, .int .u64 l.x.u, .int .i64 l.y.s, .int .i64 l.y.c, .slice B m q, .int .u64 l.y.u, .bool l.up])] #[]) (.int .i64 1) (by rfl) (by rfl) Hk1.out ?_)
  intro w1 m1 g1
  have r1 := grown_then (grown_of_below ((Below.refl w0.heap.size w0).alloc (Nat.le_refl _) _) (some w0.heap.size)) g1 (.inl rfl)
  have b1 := below_of_grown r1 (Nat.le_refl _) (Nat.le_refl _)
  have n1 := Hk0.out.below b1
  have o1 := Hg0.out.below b1
  clear y0 y1 y2 y3 y4 y5 y6 y7 y8 y9 y10 y11
  have ⟨Hm1, Hg1, Hr1, Hb1, Hn1, Ho1⟩ := hid6 m1 g1 r1 b1 n1 o1; clear m1 g1 r1 b1 n1 o1
  obtain ⟨y0, y1, y2, y3, y4, y5, y6, y7, y8, y9, y10, y11⟩ := at12_of Hn1.out
  have ly1 := (Hn1.out 0 _ rfl).lt
  go_wp2_with (refine wp_insert_any _ (by rfl) (.tmp 6) _ (.tmp 10) _ (by rfl) 3 150 K Tryz.underlying160 w0.heap.size 1 _ (by rfl) Hm1.out (by unfold maxLen; omega) (.int .i64 2) (.func (.func 120) #[(.agg #[.int .i64 l.d, .int .i64 l.k, .int .i64 l.r, .int .i64 l.x.s, .int .i64 l.x.c, .slice A n p, .int .u64 l.x.u, .int .i64 l.y.s, .int .i64 l.y.c, .slice B m q, .int .u64 l.y.u, .bool l.up])] #[]) (.int .i64 2) (by rfl) (by rfl) Hk2.out ?_)
  intro w2 m2 g2
  have r2 := grown_then Hr1.out g2 (.inl rfl)
  have b2 := below_of_grown r2 (Nat.le_refl _) (Nat.le_refl _)
  have n2 := Hk0.out.below b2
  have o2 := Hg0.out.below b2
  clear y0 y1 y2 y3 y4 y5 y6 y7 y8 y9 y10 y11
  have ⟨Hm2, Hg2, Hr2, Hb2, Hn2, Ho2⟩ := hid6 m2 g2 r2 b2 n2 o2; clear m2 g2 r2 b2 n2 o2
  obtain ⟨y0, y1, y2, y3, y4, y5, y6, y7, y8, y9, y10, y11⟩ := at12_of Hn2.out
  have ly2 := (Hn2.out 0 _ rfl).lt
  go_wp2_with (refine wp_insert_any _ (by rfl) (.tmp 6) _ (.tmp 12) _ (by rfl) 3 150 K Tryz.underlying160 w0.heap.size 2 _ (by rfl) Hm2.out (by unfold maxLen; omega) (.int .i64 3) (.func (.func 121) #[(.agg #[.int .i64 l.d, .int .i64 l.k, .int .i64 l.r, .int .i64 l.x.s, .int .i64 l.x.c, .slice A n p, .int .u64 l.x.u, .int .i64 l.y.s, .int .i64 l.y.c, .slice B m q, .int .u64 l.y.u, .bool l.up])] #[]) (.int .i64 3) (by rfl) (by rfl) Hk3.out ?_)
  intro w3 m3 g3
  have r3 := grown_then Hr2.out g3 (.inl rfl)
  have b3 := below_of_grown r3 (Nat.le_refl _) (Nat.le_refl _)
  have n3 := Hk0.out.below b3
  have o3 := Hg0.out.below b3
  clear y0 y1 y2 y3 y4 y5 y6 y7 y8 y9 y10 y11
  have ⟨Hm3, Hg3, Hr3, Hb3, Hn3, Ho3⟩ := hid6 m3 g3 r3 b3 n3 o3; clear m3 g3 r3 b3 n3 o3
  obtain ⟨y0, y1, y2, y3, y4, y5, y6, y7, y8, y9, y10, y11⟩ := at12_of Hn3.out
  have ly3 := (Hn3.out 0 _ rfl).lt
  obtain ⟨z0, z1, z2, z3, z4, z5, z6, z7, z8⟩ := at9_of Ho3.out
  have lz := (Ho3.out 0 _ rfl).lt
  have lk3 := Hlk.out (.agg #[.int .i64 l.d, .int .i64 l.k, .int .i64 l.r, .int .i64 l.x.s, .int .i64 l.x.c, .slice A n p, .int .u64 l.x.u, .int .i64 l.y.s, .int .i64 l.y.c, .slice B m q, .int .u64 l.y.u, .bool l.up]) _ _ Hm3.out
  have bw := Hbb0.out.trans (Hb3.out.mono Hbb0.out.size)
  have Hbw := Lib.hid bw; clear bw
  go_wp2_with fail
  (with_reducible refine (Hq3.out _ ?_ ?_ ?_).mono ?_)
  ·exact Hhx.out.below Hbw.out
  ·exact Hhy.out.below Hbw.out
  ·exact Hht.out.below Hbw.out
  rintro e w4 ⟨A4, t4, rfl, hi4, b4⟩
  have bb4 := Hbw.out.trans (b4.mono Hbw.out.size)
  have ⟨Hb4, Hbb4⟩ := hid2 b4 bb4; clear b4 bb4
  go_wp2_with fail
  go_ret2
  exact ⟨A4, t4, by first | rfl | (simp; done), hi4, Hbb4.out⟩
end
end Go.Proofs.YtclgncaghiinhaaGreatDoor
